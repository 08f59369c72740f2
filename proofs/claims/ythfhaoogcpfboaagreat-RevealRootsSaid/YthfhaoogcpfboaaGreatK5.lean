/-
  Parts of the proof: VR VS VT VU W2 VX VY W1 VZ.
-/
import Derived.Test.YthfhaoogcpfboaaGreatK4
set_option linter.unusedVariables false
set_option linter.unusedSimpArgs false

/-! Walks: VR. -/
namespace Go.Proofs.YthfhaoogcpfboaaGreat
open Go.RowKit
set_option maxRecDepth 100000
set_option linter.unusedVariables false
theorem hv_agg {H Hs : Hp} {rd : List Nat} {al : Bool} {vs rs : List AV} (h : HVs H Hs rd al vs rs) : HV H Hs rd al (.agg vs) (.agg rs) := fun w S ρ c hh hv => by
  obtain ⟨C, rfl, hn, h1, h2⟩ := hv.agg_inv
  obtain ⟨e1, e2⟩ := h.at_
  refine .agg rs C (by rw [hn, e1]) (fun j r hj => ?_) fun j r hj => ?_
  · obtain ⟨v, g1, _⟩ := e2 j r hj
    exact h1 j v g1
  · obtain ⟨v, g1, g2⟩ := e2 j r hj
    exact g2 w S ρ _ hh (h2 j v g1)
/-- A part and a piece. -/
structure Pa where
  name : List Int
  cells : List (List Pl)
  want : List Int
structure Pc where
  sure : List Bool
  touched : List Bool
  cuts : List (List Pl)
abbrev cB (b : Bool) : List AV := [.bool b]
abbrev cPa (p : Pa) : List AV := [.str (Qu p.name), .rs 1 (p.cells.map cR), .rs 1 (p.want.map civ)]
abbrev cPc (x : Pc) : List AV := [.rs 1 (x.sure.map cB), .rs 1 (x.touched.map cB), .rs 1 (x.cuts.map cR)]
abbrev cJ (p : Pa) (x : Pc) : List AV := [.str (Qu p.name), .rs 1 (p.cells.map cR), .rs 1 (p.want.map civ), .rs 1 (x.sure.map cB), .rs 1 (x.touched.map cB), .rs 1 (x.cuts.map cR)]
def boxS (lo hi : V3) : List Pl := [⟨⟨1, 0, 0⟩, hi.x⟩, ⟨⟨-1, 0, 0⟩, -lo.x⟩, ⟨⟨0, 1, 0⟩, hi.y⟩, ⟨⟨0, -1, 0⟩, -lo.y⟩, ⟨⟨0, 0, 1⟩, hi.z⟩, ⟨⟨0, 0, -1⟩, -lo.z⟩]
def XL (w : Int) : Bool := decide (w < 1) || decide (w > 3)
def ckC : List (List Pl) → List (List Pl) → Int
  | _, [] => 0
  | pre, c :: l => if (cfullS c && sapartS c pre) = true then ckC (pre ++ [c]) l else 13
theorem ckC_at {l : List (List Pl)} {k : Nat} {c : List Pl} (h : l[k]? = some c) : ckC (l.take k) (l.drop k) = if (cfullS c && sapartS c (l.take k)) = true then ckC (l.take (k + 1)) (l.drop (k + 1)) else 13 := by
  rw [drop_at h, QX h]; rfl
theorem ckC_end {l pre : List (List Pl)} {k : Nat} (h : l.length ≤ k) : ckC pre (l.drop k) = 0 := by rw [List.drop_eq_nil_of_le h]; rfl
/-- The error of a part. -/
def ckP (p : Pa) : Int := if p.cells.length = 0 ∨ p.cells.length > 16 then 2 else if p.want.length ≠ p.cells.length ∨ p.want.any XL = true then 1 else ckC [] p.cells
def ckAll : List (List Pl) → Int
  | [] => 0
  | c :: l => if ckS c ≠ 0 then ckS c else ckAll l
theorem ckAll_at {l : List (List Pl)} {k : Nat} {c : List Pl} (h : l[k]? = some c) : ckAll (l.drop k) = if ckS c ≠ 0 then ckS c else ckAll (l.drop (k + 1)) := by rw [drop_at h]; rfl
/-- The error of a part and a piece. -/
def JF (p : Pa) (x : Pc) : Int := if ckP p ≠ 0 then ckP p else if x.sure.length ≠ p.cells.length ∨ x.touched.length ≠ p.cells.length ∨ x.cuts.length > 24 ∨ ckAll x.cuts ≠ 0 then 4 else 0
structure PaOK (p : Pa) : Prop where
  n : p.cells.length ≤ 1000
  w : p.want.length ≤ 1000000
  c : ∀ c ∈ p.cells, 1 ≤ c.length ∧ c.length ≤ 100
structure PcOK (x : Pc) : Prop where
  n : x.cuts.length ≤ 1000
  c : ∀ c ∈ x.cuts, c.length ≤ 100
theorem ckP_3 {p : Pa} (h1 : ¬ ((p.cells.length : Int) = 0)) (h2 : ¬ ((p.cells.length : Int) > 16)) (h3 : ¬ ((p.want.length : Int) ≠ p.cells.length)) (h4 : p.want.any XL = false) : ckP p = ckC [] p.cells := by
  unfold ckP
  rw [if_neg (by omega), if_neg (by rw [h4]; simp; omega)]
def spoiltB (p : Pa) (x : Pc) (k : Nat) : Bool := decide (p.want.getD k 0 = 1) && !sapartS (p.cells.getD k []) x.cuts
def gougedB (p : Pa) (x : Pc) (k : Nat) : Bool := decide (p.want.getD k 0 = 1) && x.touched.getD k false
def leftB (p : Pa) (x : Pc) (k : Nat) : Bool := decide (p.want.getD k 0 = 2) && !x.sure.getD k false
theorem XO {α : Type} {l : List α} {k : Nat} {x d : α} (h : l[k]? = some x) : l.getD k d = x := by rw [List.getD_eq_getElem?_getD, h]; rfl
def badK (p : Pa) (x : Pc) : Nat → Nat → Bool
  | 0 => spoiltB p x
  | 1 => gougedB p x
  | _ => leftB p x
def anyK (p : Pa) (x : Pc) (i : Nat) : Bool := (List.range p.cells.length).any (badK p x i)
theorem anyK_t {p : Pa} {x : Pc} {i k : Nat} (hk : k < p.cells.length) (h : badK p x i k = true) : anyK p x i = true := List.any_eq_true.2 ⟨k, List.mem_range.2 hk, h⟩
theorem anyK_f {p : Pa} {x : Pc} {i : Nat} (h : ∀ j, j < p.cells.length → badK p x i j = false) : anyK p x i = false := by
  rw [anyK, List.any_eq_false]
  intro k hk
  rw [h k (List.mem_range.1 hk)]; decide
/-- The verdict on a piece. -/
def verdS (p : Pa) (x : Pc) : Int := if JF p x ≠ 0 then JF p x else if anyK p x 0 = true then 35 else if anyK p x 1 = true then 30 else if anyK p x 2 = true then 34 else 0
theorem ckC_r : ∀ (l pre : List (List Pl)), ckC pre l = 0 ∨ ckC pre l = 13
  | [], _ => .inl rfl
  | c :: l, pre => by unfold ckC; split; exact ckC_r l _; exact .inr rfl
theorem ckP_r (p : Pa) : ckP p = 0 ∨ ckP p = 2 ∨ ckP p = 1 ∨ ckP p = 13 := by
  unfold ckP; split
  · exact .inr (.inl rfl)
  · split
    · exact .inr (.inr (.inl rfl))
    · rcases ckC_r p.cells [] with h | h
      · exact .inl h
      · exact .inr (.inr (.inr h))
theorem fitS_r (p : Pa) (x : Pc) : JF p x = 0 ∨ JF p x = 2 ∨ JF p x = 1 ∨ JF p x = 13 ∨ JF p x = 4 := by
  unfold JF; split
  · have := ckP_r p; omega
  · split
    · exact .inr (.inr (.inr (.inr rfl)))
    · exact .inl rfl
theorem fit_len {p : Pa} {x : Pc} (h : JF p x = 0) : p.want.length = p.cells.length ∧ x.sure.length = p.cells.length ∧ x.touched.length = p.cells.length ∧ 1 ≤ p.cells.length ∧ p.cells.length ≤ 16 := by
  unfold JF at h
  split at h
  · rename_i h1; exact absurd h h1
  · rename_i h1
    split at h
    · cases h
    · rename_i h2
      have h1 : ckP p = 0 := by omega
      unfold ckP at h1
      split at h1
      · cases h1
      · split at h1
        · cases h1
        · rename_i h3 h4
          exact ⟨by omega, by omega, by omega, by omega, by omega⟩
def fineB (e : Int) : Bool := decide (e = 0) || decide (e = 35) || decide (e = 30) || decide (e = 34)
theorem fine_fit {p : Pa} {x : Pc} (h : fineB (verdS p x) = true) : JF p x = 0 := by
  have := fitS_r p x
  by_cases h0 : JF p x = 0
  · exact h0
  · unfold verdS at h
    rw [if_pos h0] at h
    simp only [fineB, Bool.or_eq_true, decide_eq_true_eq] at h
    omega
def J2 (p : Pa) (x : Pc) (s : List Int) (k : Nat) : Lf := ⟨k, p.want.getD k 0, x.sure.getD k false, x.touched.getD k false, XH s (XK k)⟩
/-- The leaves of a piece. -/
def X9 (p : Pa) (x : Pc) (s : List Int) : List Lf := if fineB (verdS p x) = true ∧ s ≠ [] then (List.range p.want.length).map (J2 p x s) else []
theorem leaf_snoc {p : Pa} {x : Pc} {s : List Int} {k : Nat} {w : Int} {a b : Bool} (hw : p.want[k]? = some w) (ha : x.sure[k]? = some a) (hb : x.touched[k]? = some b) :
    (List.range (k + 1)).map (J2 p x s) = (List.range k).map (J2 p x s) ++ [⟨k, w, a, b, XH s (XK k)⟩] := by
  rw [List.range_succ, List.map_append]
  show _ ++ [(⟨k, p.want.getD k 0, x.sure.getD k false, x.touched.getD k false, XH s (XK k)⟩ : Lf)] = _
  rw [XO hw, XO ha, XO hb]
def mcv47 : MC := (.seq (.reg [oN 2 (.box 88 3 (.t 0)) [], oN 3 (.box 88 3 (.t 1)) [], oN 4 (.mv (.c .nils)) []] false) (.seq (.reg [oN 5 (.build [(.int .i64 0), (.int .i64 0), (.int .i64 0)] [(0, (1, (.c (.int .i64 1))))]) [], oA 6 0 3 [], oD 7 1 6 [1], oN 8 (.build [(.int .i64 0), (.int .i64 0), (.int .i64 0), (.int .i64 0)] [(0, (3, (.t 5))), (3, (1, (.t 7)))]) [0, 2], oN 9 (.build [(.int .i64 0), (.int .i64 0), (.int .i64 0)] [(0, (1, (.c (.int .i64 (-1)))))]) [], oA 10 0 2 [], oD 11 1 10 [5], oN 12 (.un .neg (.t 11)) [6], oN 13 (.build [(.int .i64 0), (.int .i64 0), (.int .i64 0), (.int .i64 0)] [(0, (3, (.t 9))), (3, (1, (.t 12)))]) [4, 7], oN 14 (.build [(.int .i64 0), (.int .i64 0), (.int .i64 0)] [(1, (1, (.c (.int .i64 1))))]) [], oA 15 1 3 [], oD 16 1 15 [10], oN 17 (.build [(.int .i64 0), (.int .i64 0), (.int .i64 0), (.int .i64 0)] [(0, (3, (.t 14))), (3, (1, (.t 16)))]) [9, 11], oN 18 (.build [(.int .i64 0), (.int .i64 0), (.int .i64 0)] [(1, (1, (.c (.int .i64 (-1)))))]) [], oA 19 1 2 [], oD 20 1 19 [14], oN 21 (.un .neg (.t 20)) [15], oN 22 (.build [(.int .i64 0), (.int .i64 0), (.int .i64 0), (.int .i64 0)] [(0, (3, (.t 18))), (3, (1, (.t 21)))]) [13, 16], oN 23 (.build [(.int .i64 0), (.int .i64 0), (.int .i64 0)] [(2, (1, (.c (.int .i64 1))))]) [], oA 24 2 3 [], oD 25 1 24 [19], oN 26 (.build [(.int .i64 0), (.int .i64 0), (.int .i64 0), (.int .i64 0)] [(0, (3, (.t 23))), (3, (1, (.t 25)))]) [18, 20], oN 27 (.build [(.int .i64 0), (.int .i64 0), (.int .i64 0)] [(2, (1, (.c (.int .i64 (-1)))))]) [], oA 28 2 2 [], oD 29 1 28 [23], oN 30 (.un .neg (.t 29)) [24], oN 31 (.build [(.int .i64 0), (.int .i64 0), (.int .i64 0), (.int .i64 0)] [(0, (3, (.t 27))), (3, (1, (.t 30)))]) [22, 25], oN 32 (.bslice 90 4 [(.int .i64 0), (.int .i64 0), (.int .i64 0), (.int .i64 0)] 6 [(0, (.t 8)), (1, (.t 13)), (2, (.t 17)), (3, (.t 22)), (4, (.t 26)), (5, (.t 31))]) [3, 8, 12, 17, 21, 26], oM 4 32 [27, 0, 1, 2, 3, 4, 5, 6, 7, 8, 9, 10, 11, 12, 13, 14, 15, 16, 17, 18, 19, 20, 21, 22, 23, 24, 25, 26, 27]] false) .ret))
theorem mcOkv47 : (match Tryz.f47.body with | some c => Q2 Tryz.prog 33 c | none => none) = some mcv47 := by kernel_rfl
theorem vc47 (lo hi : V3) (hl : (-1000000000 ≤ lo.x ∧ lo.x ≤ 1000000000) ∧ (-1000000000 ≤ lo.y ∧ lo.y ≤ 1000000000) ∧ (-1000000000 ≤ lo.z ∧ lo.z ≤ 1000000000)) : FC Tryz.prog 47 [aV lo, aV hi] [] (.rs 4 ((boxS lo hi).map cPl)) [] false := by
  obtain ⟨hx, hy, hz⟩ := hl
  refine Qs (nt := 33) Tryz.func47 rfl rfl mcOkv47 (nL rfl) ?_
  delta mcv47
  refine Qb (Qc (Qf 3 rfl (Qa fun _ => Qd (Qb (Qc (Qf 7 rfl (rs_neg rfl rfl (by omega) (Qf 8 rfl ?_))))))))
  refine rs_neg rfl rfl (by omega) (Qf 8 rfl (rs_neg rfl rfl (by omega) (QU rfl rfl (Qv (l := (boxS lo hi).flatMap cPl) (els := (boxS lo hi).map cPl) (fl := true) rfl (by kernel_rfl) rfl rfl (by kernel_rfl) (by kernel_rfl) (Qe rfl rfl (Qa fun _ => Qd (Ql ?_)))))))
  exact Q5 rfl (QK (f := cPl) (xs := boxS lo hi) rfl rfl rfl (fun _ => rfl)) .nil
def mcv153 : MC := (.seq (.reg [oN 2 (.mv (.c (.bool false))) []] false) (.seq (.reg [oM 3 0 [], oN 4 (.bin .lss (.t 3) (.c (.int .i64 1))) [0], oM 5 4 [1], pM 6 0 5 false [2], oG 7 (.bin .gtr (.t 6) (.c (.int .i64 3))) 5 false [3, 2], oN 8 (.pick (.t 5) (.c (.bool true)) (.t 7)) [2, 4], oM 2 8 [5, 2, 0, 1, 2, 3, 4, 5]] false) .ret))
theorem mcOkv153 : (match Tryz.f153.body with | some c => Q2 Tryz.prog 9 c | none => none) = some mcv153 := by kernel_rfl
theorem vc153 (x : Int) : FC Tryz.prog 153 [iv x] [] (.bool (XL x)) [] false := by
  refine Qs (nt := 9) Tryz.func153 rfl rfl mcOkv153 (nL rfl) ?_
  delta mcv153
  refine Qb (Qc (Qe rfl rfl (Qa fun _ => Qd (Qb (Qc (Qe rfl rfl (QE rfl rfl rfl rfl (fun h4 => ?_) (fun h4 => ?_))))))))
  · skip
    refine Qf 5 rfl (Qa fun _ => Qd (Ql ?_))
    rw [show XL x = true from by unfold XL; rw [decide_eq_true h4]; rfl]
    exact Qk rfl rfl rfl (.inr rfl)
  · skip
    refine Qf 2 rfl (QE rfl rfl rfl rfl (fun h7 => ?_) (fun h7 => ?_))
    · skip
      refine Qf 2 rfl (Qa fun _ => Qd (Ql ?_))
      rw [show XL x = true from by unfold XL; rw [decide_eq_false h4, decide_eq_true h7]; rfl]
      exact Qk rfl rfl rfl (.inr rfl)
    · skip
      refine Qf 2 rfl (Qa fun _ => Qd (Ql ?_))
      rw [show XL x = false from by unfold XL; rw [decide_eq_false h4, decide_eq_false h7]; rfl]
      exact Qk rfl rfl rfl (.inr rfl)
theorem vcI_strange (xs : List Int) (hxn : xs.length ≤ 4611686018427387904) : FC Tryz.prog 115 [.rs 1 (xs.map civ), (.fn (.func 153) [])] [] (.int .i64 (Xw XL xs 0)) [] false := by
  refine Qs (nt := 19) Tryz.func115 rfl rfl mcOkv115 (nL rfl) ?_
  delta mcv115
  refine Qb (Qc (Qe rfl rfl (Qa fun _ => Qd (Qb (Qb (Qc (Qe rfl rfl (Qq rfl rfl ?_))))))))
  refine Qe rfl rfl (Qa fun _ => Qd (Qm ?_))
  refine QC (α := Nat) (fun k => xs.length - k) (fun k => [(0, .rs 1 (xs.map civ)), (1, (.fn (.func 153) [])), (6, .rs 1 (xs.map civ)), (7, iv (xs.length : Int)), (8, iv (((k) : Nat) : Int))]) (fun k => []) (fun k => k ≤ xs.length ∧ Xw XL (xs.drop k) k = Xw XL xs 0) 0 (⟨by omega, rfl⟩)
    (Qj (.cs (.cs (.cs (.cs (.cs (.nil)))))) (.nil) (fun i h => by cases h)) ?_
  rintro k ⟨hk, hinv⟩
  refine Qb (Qc (QJ rfl rfl rfl (Qa fun _ => Qd (Qb (Qh rfl (fun h9 => ?_) (fun h9 => ?_))))))
  · replace h9 := of_decide_eq_true h9
    refine Qn (Qd (Qb (Qm (Qb (Qc (Qf 2 rfl (Qa fun _ => Qd (Qb ?_))))))))
    refine Qc (Qf 3 rfl ?_)
    obtain ⟨x, hxk, hxm⟩ := Qy (L := xs) (k := k) (by omega)
    rw [JM hxk] at hinv
    
    refine Qt (f := civ) (y := x) rfl rfl rfl (by omega) hxk (Xh rfl rfl rfl (X5 [] rfl rfl (by kernel_rfl) rfl (fc_up (vc153 x)) (.cons (Qg rfl) (.nil)) .nil rfl rfl rfl ?_))
    cases h16 : XL x
    · skip
      refine Qa fun _ => Qd (Qh rfl (fun h => by cases h) (fun _ => ?_))
      refine Qn (QI (Qd (Qc (Qx rfl rfl rfl (by omega) (Qe rfl rfl (Qa fun _ => Qd ?_))))))
      rw [h16] at hinv
      exact ⟨k + 1, ⟨by omega, hinv⟩, by omega, Qj (.cs (.cs (.cs (.cs (.cs (.nil)))))) (.nil) (fun i h => by cases h)⟩
    · skip
      refine Qa fun _ => Qd (Qh rfl (fun _ => ?_) (fun h => by cases h))
      refine Qb (Qc (Qf 2 rfl (Qa fun _ => Qd (Ql (QL (Q1 (Q1 (QL ?_))))))))
      refine Q1 ?_
      rw [h16] at hinv
      rw [← hinv]
      exact Qk rfl rfl rfl (.inr rfl)
  · replace h9 := of_decide_eq_false h9
    refine Q3 (QB (QB (QA (Qd (Qb (Qc (Qe rfl rfl (Qa fun _ => Qd ?_))))))))
    refine Ql ?_
    rw [J3 (by omega)] at hinv
    rw [← hinv]
    exact Qk rfl rfl rfl (.inr rfl)
theorem vcC_strange (xs : List Int) (hxn : xs.length ≤ 4611686018427387904) : FC Tryz.prog 65 [.rs 1 (xs.map civ), (.fn (.func 153) [])] [] (.bool (xs.any XL)) [] false := by
  refine Qs (nt := 9) Tryz.func65 rfl rfl mcOkv65 (nL rfl) ?_
  delta mcv65
  refine Qb (Qc (Qe rfl rfl (Qa fun _ => Qd (Qb (Qc (Qf 2 rfl (Qi [] rfl rfl (vcI_strange xs hxn) (.cons (Qg rfl) (.cons (Qg rfl) (.nil))) rfl (XM rfl rfl rfl ?_))))))))
  refine Qe rfl rfl (Qa fun _ => Qd (Ql ?_))
  rw [← Jt]
  exact Qk rfl rfl rfl (.inr rfl)
def mcv127 : MC := (.seq (.reg [oN 1 (.box 31 3 (.t 0)) [], oN 2 (.mv (.c (.int .i64 0))) []] false) (.seq (.reg [oA 7 1 1 [], oD 8 1 7 [0], oN 9 (.len (.t 8)) [1], oM 3 9 [2, 0, 1, 2]] false) (.seq (.reg [oN 4 (.mv (.c (.fn (.func 153) []))) []] false) (.seq (.block 0 (.seq (.reg [oM 11 3 [], oN 12 (.bin .eql (.t 11) (.c (.int .i64 0))) [0], oM 13 12 [1], pM 14 3 13 false [2], oG 15 (.bin .gtr (.t 14) (.c (.int .i64 16))) 13 false [3, 2], oN 16 (.pick (.t 13) (.c (.bool true)) (.t 15)) [2, 4], oM 10 16 [5, 2]] false) (.cond (.t 10) (.seq (.reg [oN 2 (.mv (.c (.int .i64 2))) []] false) .ret) (.seq (.reg [oA 18 2 1 [], oD 19 1 18 [0], oN 20 (.len (.t 19)) [1], oM 21 3 [], oN 22 (.bin .neq (.t 20) (.t 21)) [2, 3], oM 23 22 [4], pA 24 2 1 23 false [5], pD 25 1 24 23 false [6, 5], pM 26 4 23 false [5], oG 27 (.call 65 [(.t 25), (.t 26)]) 23 false [7, 8, 5, 5], oN 28 (.pick (.t 23) (.c (.bool true)) (.t 27)) [5, 9], oM 17 28 [10, 9]] false) (.cond (.t 17) (.seq (.reg [oN 2 (.mv (.c (.int .i64 1))) []] false) .ret) .skip))))) (.seq (.seq (.reg [oA 29 1 1 [], oD 30 1 29 [0], oN 31 (.len (.t 30)) [1], oN 32 (.mv (.c (.int .i64 0))) []] false) (.block 1 (.loop (.seq (.reg [oN 33 (.bin .lss (.t 32) (.t 31)) []] false) (.seq (.cond (.t 33) .skip (.exit 1)) (.seq (.block 2 (.seq (.reg [oM 34 32 [], oN 35 (.ixsl 1 (.t 30) (.t 32)) [], oD 36 1 35 [1], oM 5 34 [0, 0, 1, 2], oM 6 36 [2, 3, 0, 1, 2, 3]] false) (.seq (.reg [oM 37 6 [], oN 38 (.call 154 [(.t 37)]) [0], oN 39 (.un .not (.t 38)) [1], oM 40 39 [2, 1], pM 41 6 40 false [3], pA 42 1 1 40 false [3], pD 43 1 42 40 false [5, 3], pM 44 5 40 false [3], oG 45 (.slc 1 (.t 43) none (some (.t 44))) 40 false [6, 7, 3], oG 46 (.call 86 [(.t 41), (.t 45)]) 40 false [4, 8, 3, 3], oG 47 (.un .not (.t 46)) 40 false [9, 3], oN 48 (.pick (.t 40) (.c (.bool true)) (.t 47)) [3, 10]] false) (.cond (.t 48) (.seq (.reg [oN 2 (.mv (.c (.int .i64 13))) []] false) .ret) .skip)))) (.reg [oN 49 (.bin .add (.t 32) (.c (.int .i64 1))) [], oM 32 49 [0]] false))))))) (.seq (.reg [oN 2 (.mv (.c (.int .i64 0))) []] false) .ret))))))
theorem mcOkv127 : (match Tryz.f127.body with | some c => Q2 Tryz.prog 50 c | none => none) = some mcv127 := by kernel_rfl
set_option maxHeartbeats 1000000 in
theorem vc127 (p : Pa) (hp : PaOK p) : FC Tryz.prog 127 [.agg (cPa p)] [] (iv (ckP p)) [] false := by
  have hpn := hp.n
  have hpw := hp.w
  refine Qs (nt := 50) Tryz.func127 rfl rfl mcOkv127 (nL rfl) ?_
  delta mcv127
  refine Qb (Qc (Qf 2 rfl (Qa fun _ => Qd (Qb (Qc (Qf 2 rfl (Qq rfl rfl (Qe rfl rfl ?_))))))))
  refine Qa fun _ => Qd (Qb (Qc (Qe rfl rfl (Qa fun _ => Qd (Qb (Qm (Qb ?_)))))))
  refine Qc (Qe rfl rfl (QE rfl rfl rfl rfl (fun h12 => ?_) (fun h12 => ?_)))
  · skip
    refine Qf 5 rfl (Qa fun _ => Qd (Qh rfl (fun _ => ?_) (fun h => by cases h)))
    refine Qb (Qc (Qe rfl rfl (Qa fun _ => Qd (Ql (QL (Q1 ?_))))))
    rw [show ckP p = 2 from if_pos (by omega)]
    exact Qk rfl rfl rfl (.inr rfl)
  · skip
    refine Qf 2 rfl (QE rfl rfl rfl rfl (fun h15 => ?_) (fun h15 => ?_))
    · skip
      refine Qf 2 rfl (Qa fun _ => Qd (Qh rfl (fun _ => ?_) (fun h => by cases h)))
      refine Qb (Qc (Qe rfl rfl (Qa fun _ => Qd (Ql (QL (Q1 ?_))))))
      rw [show ckP p = 2 from if_pos (by omega)]
      exact Qk rfl rfl rfl (.inr rfl)
    · skip
      refine Qf 2 rfl (Qa fun _ => Qd (Qh rfl (fun h => by cases h) (fun _ => ?_)))
      refine Qb (Qc (Qf 2 rfl (Qq rfl rfl (Qe rfl rfl (QE rfl rfl rfl rfl (fun h22 => ?_) (fun h22 => ?_))))))
      · skip
        refine Qf 7 rfl (Qa fun _ => Qd (Qh rfl (fun _ => ?_) (fun h => by cases h)))
        refine Qb (Qc (Qe rfl rfl (Qa fun _ => Qd (Ql (QL (Q1 ?_))))))
        rw [show ckP p = 1 from by unfold ckP; rw [if_neg (by omega), if_pos (.inl (by omega))]]
        exact Qk rfl rfl rfl (.inr rfl)
      · skip
        refine Qf 4 rfl (Qi [] rfl rfl (vcC_strange p.want (by omega)) (.cons (Qg rfl) (.cons (Qg rfl) (.nil))) rfl ?_)
        cases h27 : p.want.any XL
        · skip
          refine Qf 2 rfl (Qa fun _ => Qd (Qh rfl (fun h => by cases h) (fun _ => ?_)))
          refine Qn (QI (Qd (Qb (Qb ?_))))
          have hP := ckP_3 h12 h15 h22 h27
          refine Qc (Qf 2 rfl (Qq rfl rfl (Qe rfl rfl (Qa fun _ => Qd (Qm ?_)))))
          refine QC (α := Nat) (fun k => p.cells.length - k) (fun k => [(1, .ptr 1 0 0), (30, .rs 1 (p.cells.map cR)), (31, iv (p.cells.length : Int)), (32, iv (((k) : Nat) : Int))]) (fun k => [(1, .cells 31 3 [cPa p] true)]) (fun k => k ≤ p.cells.length ∧ ckC (p.cells.take k) (p.cells.drop k) = ckC [] p.cells) 0 (⟨by omega, rfl⟩)
            (Qj (.cs (.cs (.cs (.cs (.nil))))) (.keep (rfl) rfl (.nil)) (fun i h => by cases h)) ?_
          rintro k ⟨hk, hinv⟩
          refine Qb (Qc (QJ rfl rfl rfl (Qa fun _ => Qd (Qb (Qh rfl (fun h33 => ?_) (fun h33 => ?_))))))
          · replace h33 := of_decide_eq_true h33
            refine Qn (Qd (Qb (Qm (Qb (Qc (Qe rfl rfl ?_))))))
            obtain ⟨c, hck, hcm⟩ := Qy (L := p.cells) (k := k) (by omega)
            rw [ckC_at hck] at hinv
            refine Qt (f := cR) (y := c) rfl rfl rfl (by omega) hck (Qf 3 rfl (Qa fun _ => Qd (Qb (Qc (Qe rfl rfl (Qi [] rfl rfl (vc154 c ⟨hp.c c hcm⟩) (.cons (Qg rfl) (.nil)) rfl ?_))))))
            cases h38 : cfullS c
            · skip
              refine Qf 10 rfl (Qa fun _ => Qd (Qh rfl (fun _ => ?_) (fun h => by cases h)))
              refine Qb (Qc (Qe rfl rfl (Qa fun _ => Qd (Ql (QL (Q1 (Q1 (QL ?_))))))))
              refine Q1 ?_
              rw [h38] at hinv
              rw [hP, ← hinv]
              exact Qk rfl rfl rfl (.inr rfl)
            · skip
              refine Qf 6 rfl (rs_slc_r (l := 0) (q := (k : Int)) (els' := (p.cells.take k).map cR) rfl rfl rfl rfl rfl (by decide) (by omega) (by simp; omega) (by simp [List.map_take]) (Qi [] rfl rfl (vc86 c (p.cells.take k) (fun q hq => ⟨hp.c c hcm, (hp.c q (List.mem_of_mem_take hq)).2⟩) (by simp; omega)) (.cons (Qg rfl) (.cons (Qg rfl) (.nil))) rfl ?_))
              cases h46 : sapartS c (p.cells.take k)
              · skip
                refine Qf 2 rfl (Qa fun _ => Qd (Qh rfl (fun _ => ?_) (fun h => by cases h)))
                refine Qb (Qc (Qe rfl rfl (Qa fun _ => Qd (Ql (QL (Q1 (Q1 (QL ?_))))))))
                refine Q1 ?_
                rw [h38, h46] at hinv
                rw [hP, ← hinv]
                exact Qk rfl rfl rfl (.inr rfl)
              · skip
                refine Qf 2 rfl (Qa fun _ => Qd (Qh rfl (fun h => by cases h) (fun _ => ?_)))
                refine Qn (QI (Qd (Qc (Qx rfl rfl rfl (by omega) (Qe rfl rfl (Qa fun _ => Qd ?_))))))
                rw [h38, h46] at hinv
                exact ⟨k + 1, ⟨by omega, hinv⟩, by omega, Qj (.cs (.cs (.cs (.cs (.nil))))) (.keep (rfl) rfl (.nil)) (fun i h => by cases h)⟩
          · replace h33 := of_decide_eq_false h33
            refine Q3 (QB (QB (QA (Qd (Qb (Qc (Qe rfl rfl (Qa fun _ => Qd ?_))))))))
            refine Ql ?_
            rw [hP, ← hinv, ckC_end (by omega)]
            exact Qk rfl rfl rfl (.inr rfl)
        · skip
          refine Qf 2 rfl (Qa fun _ => Qd (Qh rfl (fun _ => ?_) (fun h => by cases h)))
          refine Qb (Qc (Qe rfl rfl (Qa fun _ => Qd (Ql (QL (Q1 ?_))))))
          rw [show ckP p = 1 from by unfold ckP; rw [if_neg (by omega), if_pos (.inr h27)]]
          exact Qk rfl rfl rfl (.inr rfl)
def mcv82 : MC := (.seq (.reg [oN 2 (.mv (.c (.int .i64 0))) []] false) (.seq (.seq (.reg [oM 6 0 [], oN 7 (.len (.t 6)) [0], oN 8 (.mv (.c (.int .i64 0))) []] false) (.block 0 (.loop (.seq (.reg [oN 9 (.bin .lss (.t 8) (.t 7)) []] false) (.seq (.cond (.t 9) .skip (.exit 0)) (.seq (.block 1 (.seq (.reg [oN 10 (.ixsl 1 (.t 6) (.t 8)) [], oD 11 1 10 [0], oM 4 11 [1, 0, 1]] false) (.seq (.reg [oM 12 4 [], oN 13 (.call 128 [(.t 12)]) [0], oM 5 13 [1, 1, 0, 1]] false) (.seq (.reg [oM 14 5 [], oN 15 (.bin .neq (.t 14) (.c (.int .i64 0))) [0]] false) (.cond (.t 15) (.seq (.reg [oM 16 5 [], oM 2 16 [0, 0]] false) .ret) .skip))))) (.reg [oN 17 (.bin .add (.t 8) (.c (.int .i64 1))) [], oM 8 17 [0]] false))))))) (.seq (.reg [oN 2 (.mv (.c (.int .i64 0))) []] false) .ret)))
theorem mcOkv82 : (match Tryz.f82.body with | some c => Q2 Tryz.prog 18 c | none => none) = some mcv82 := by kernel_rfl
theorem vc82 (l : List (List Pl)) (hl : l.length ≤ 1000000) (hc : ∀ c ∈ l, c.length ≤ 1000) : FC Tryz.prog 82 [.rs 1 (l.map cR)] [] (iv (ckAll l)) [] false := by
  refine Qs (nt := 18) Tryz.func82 rfl rfl mcOkv82 (nL rfl) ?_
  delta mcv82
  refine Qb (Qc (Qe rfl rfl (Qa fun _ => Qd (Qb (Qb (Qc (Qe rfl rfl (Qq rfl rfl ?_))))))))
  refine Qe rfl rfl (Qa fun _ => Qd (Qm ?_))
  refine QC (α := Nat) (fun k => l.length - k) (fun k => [(6, .rs 1 (l.map cR)), (7, iv (l.length : Int)), (8, iv (((k) : Nat) : Int))]) (fun k => []) (fun k => k ≤ l.length ∧ ckAll (l.drop k) = ckAll l) 0 (⟨by omega, rfl⟩)
    (Qj (.cs (.cs (.cs (.nil)))) (.nil) (fun i h => by cases h)) ?_
  rintro k ⟨hk, hinv⟩
  refine Qb (Qc (QJ rfl rfl rfl (Qa fun _ => Qd (Qb (Qh rfl (fun h9 => ?_) (fun h9 => ?_))))))
  · replace h9 := of_decide_eq_true h9
    refine Qn (Qd (Qb (Qm (Qb (Qc ?_)))))
    obtain ⟨c, hck, hcm⟩ := Qy (L := l) (k := k) (by omega)
    rw [ckAll_at hck] at hinv
    refine Qt (f := cR) (y := c) rfl rfl rfl (by omega) hck (Qf 2 rfl (Qa fun _ => Qd (Qb (Qc (Qe rfl rfl (Qi [] rfl rfl (vc128 c (hc c hcm)) (.cons (Qg rfl) (.nil)) rfl (Qe rfl rfl (Qa fun _ => ?_))))))))
    refine Qd (Qb (Qc (Qe rfl rfl (JD rfl rfl rfl (Qa fun _ => Qd (Qh rfl (fun h15 => ?_) (fun h15 => ?_)))))))
    · replace h15 := of_decide_eq_true h15
      refine Qb (Qc (Qf 2 rfl (Qa fun _ => Qd (Ql (QL (Q1 (Q1 (QL ?_))))))))
      refine Q1 ?_
      rw [if_pos h15] at hinv
      rw [← hinv]
      exact Qk rfl rfl rfl (.inr rfl)
    · replace h15 := of_decide_eq_false h15
      refine Qn (QI (Qd (Qc (Qx rfl rfl rfl (by omega) (Qe rfl rfl (Qa fun _ => Qd ?_))))))
      rw [if_neg h15] at hinv
      exact ⟨k + 1, ⟨by omega, hinv⟩, by omega, Qj (.cs (.cs (.cs (.nil)))) (.nil) (fun i h => by cases h)⟩
  · replace h9 := of_decide_eq_false h9
    refine Q3 (QB (QB (QA (Qd (Qb (Qc (Qe rfl rfl (Qa fun _ => Qd ?_))))))))
    refine Ql ?_
    rw [← hinv, List.drop_eq_nil_of_le (by omega)]
    exact Qk rfl rfl rfl (.inr rfl)
def mcv81 : MC := (.seq (.reg [oN 2 (.box 31 3 (.t 0)) [], oN 3 (.box 35 3 (.t 1)) [], oN 4 (.mv (.c (.int .i64 0))) []] false) (.seq (.seq (.reg [oN 7 (.ld true 3 (.t 2)) [], oN 8 (.call 127 [(.t 7)]) [0], oM 5 8 [1, 1, 0, 1]] false) (.seq (.reg [oM 9 5 [], oN 10 (.bin .neq (.t 9) (.c (.int .i64 0))) [0]] false) (.cond (.t 10) (.seq (.reg [oM 11 5 [], oM 4 11 [0, 0]] false) .ret) .skip))) (.seq (.seq (.reg [oA 12 1 2 [], oD 13 1 12 [0], oN 14 (.len (.t 13)) [1], oM 6 14 [2, 0, 1, 2]] false) (.seq (.reg [oA 15 0 3 [], oD 16 1 15 [0], oN 17 (.len (.t 16)) [1], oM 18 6 [], oN 19 (.bin .neq (.t 17) (.t 18)) [2, 3], oM 20 19 [4], pA 21 1 3 20 false [5], pD 22 1 21 20 false [6, 5], oG 23 (.len (.t 22)) 20 false [7, 5], pM 24 6 20 false [5], oG 25 (.bin .neq (.t 23) (.t 24)) 20 false [8, 9, 5], oN 26 (.pick (.t 20) (.c (.bool true)) (.t 25)) [5, 10], oM 27 26 [11, 5], pA 28 2 3 27 false [12], pD 29 1 28 27 false [13, 12], oG 30 (.len (.t 29)) 27 false [14, 12], oG 31 (.bin .gtr (.t 30) (.c (.int .i64 24))) 27 false [15, 12], oN 32 (.pick (.t 27) (.c (.bool true)) (.t 31)) [12, 16], oM 33 32 [17, 12], pA 34 2 3 33 false [18], pD 35 1 34 33 false [19, 18], oG 36 (.call 82 [(.t 35)]) 33 false [20, 18, 18], oG 37 (.bin .neq (.t 36) (.c (.int .i64 0))) 33 false [21, 18], oN 38 (.pick (.t 33) (.c (.bool true)) (.t 37)) [18, 22]] false) (.cond (.t 38) (.seq (.reg [oN 4 (.mv (.c (.int .i64 4))) []] false) .ret) .skip))) (.seq (.reg [oN 4 (.mv (.c (.int .i64 0))) []] false) .ret))))
theorem mcOkv81 : (match Tryz.f81.body with | some c => Q2 Tryz.prog 39 c | none => none) = some mcv81 := by kernel_rfl
theorem vc81 (p : Pa) (hp : PaOK p) (x : Pc) (hx : PcOK x) : FC Tryz.prog 81 [.agg (cPa p), .agg (cPc x)] [] (iv (JF p x)) [] false := by
  have hpn := hp.n
  have hxn := hx.n
  refine Qs (nt := 39) Tryz.func81 rfl rfl mcOkv81 (nL rfl) ?_
  delta mcv81
  refine Qb (Qc (Qf 3 rfl (Qa fun _ => Qd (Qb (Qb (Qc (Qo rfl rfl rfl rfl (nL rfl) rfl (Qi [] rfl rfl (vc127 p hp) (.cons (Qg rfl) (.nil)) rfl ?_))))))))
  refine Qe rfl rfl (Qa fun _ => Qd (Qb (Qc (Qe rfl rfl (JD rfl rfl rfl (Qa fun _ => Qd (Qh rfl (fun h10 => ?_) (fun h10 => ?_))))))))
  · replace h10 := of_decide_eq_true h10
    refine Qb (Qc (Qf 2 rfl (Qa fun _ => Qd (Ql (Q1 ?_)))))
    rw [show JF p x = ckP p from if_pos h10]
    exact Qk rfl rfl rfl (.inr rfl)
  · replace h10 := of_decide_eq_false h10
    refine Qn (Qd (Qb (Qb (Qc (Qf 2 rfl (Qq rfl rfl (Qe rfl rfl (Qa fun _ => Qd ?_))))))))
    refine Qb (Qc (Qf 2 rfl (Qq rfl rfl (Qe rfl rfl (QE rfl rfl rfl rfl (fun h19 => ?_) (fun h19 => ?_))))))
    · skip
      refine Qf 19 rfl (Qa fun _ => Qd (Qh rfl (fun _ => ?_) (fun h => by cases h)))
      refine Qb (Qc (Qe rfl rfl (Qa fun _ => Qd (Ql (Q1 ?_)))))
      rw [show JF p x = 4 from by unfold JF; rw [if_neg h10, if_pos (by omega)]]
      exact Qk rfl rfl rfl (.inr rfl)
    · skip
      refine Qf 3 rfl (Qq rfl rfl (Qe rfl rfl (QE rfl rfl rfl rfl (fun h25 => ?_) (fun h25 => ?_))))
      · skip
        refine Qf 13 rfl (Qa fun _ => Qd (Qh rfl (fun _ => ?_) (fun h => by cases h)))
        refine Qb (Qc (Qe rfl rfl (Qa fun _ => Qd (Ql (Q1 ?_)))))
        rw [show JF p x = 4 from by unfold JF; rw [if_neg h10, if_pos (by omega)]]
        exact Qk rfl rfl rfl (.inr rfl)
      · skip
        refine Qf 4 rfl (Qq rfl rfl (QE rfl rfl rfl rfl (fun h31 => ?_) (fun h31 => ?_)))
        · skip
          refine Qf 7 rfl (Qa fun _ => Qd (Qh rfl (fun _ => ?_) (fun h => by cases h)))
          refine Qb (Qc (Qe rfl rfl (Qa fun _ => Qd (Ql (Q1 ?_)))))
          rw [show JF p x = 4 from by unfold JF; rw [if_neg h10, if_pos (by omega)]]
          exact Qk rfl rfl rfl (.inr rfl)
        · skip
          refine Qf 4 rfl (Qi [] rfl rfl (vc82 x.cuts (by omega) (fun c hc => Nat.le_trans (hx.c c hc) (by decide))) (.cons (Qg rfl) (.nil)) rfl (QE rfl rfl rfl rfl (fun h37 => ?_) (fun h37 => ?_)))
          · skip
            refine QM rfl rfl rfl (Qa fun _ => Qd (Qh rfl (fun _ => ?_) (fun h => by cases h)))
            refine Qb (Qc (Qe rfl rfl (Qa fun _ => Qd (Ql (Q1 ?_)))))
            rw [show JF p x = 4 from by unfold JF; rw [if_neg h10, if_pos (by omega)]]
            exact Qk rfl rfl rfl (.inr rfl)
          · skip
            refine QM rfl rfl rfl (Qa fun _ => Qd (Qh rfl (fun h => by cases h) (fun _ => ?_)))
            refine Qn (Qd (Qb (Qc (Qe rfl rfl (Qa fun _ => Qd (Ql ?_))))))
            rw [show JF p x = 0 from by unfold JF; rw [if_neg h10, if_neg (by omega)]]
            exact Qk rfl rfl rfl (.inr rfl)
def mcv107 : MC := (.seq (.reg [oN 2 (.box 144 6 (.t 0)) [], oN 4 (.mv (.c (.bool false))) []] false) (.seq (.reg [oA 5 0 2 [], oA 6 2 5 [0], oD 7 1 6 [1], oM 8 1 [], oN 9 (.ixsl 1 (.t 7) (.t 8)) [2, 3], oD 10 1 9 [4], oN 11 (.bin .eql (.t 10) (.c (.int .i64 1))) [5], oM 12 11 [6], pA 13 0 2 12 true [7], pA 14 1 13 12 true [8, 7], pD 15 1 14 12 true [9, 7], pM 16 1 12 true [7], oG 17 (.ixsl 1 (.t 15) (.t 16)) 12 true [10, 11, 7], pD 18 1 17 12 true [12, 7], pA 19 3 2 12 true [7], pA 20 2 19 12 true [14, 7], pD 21 1 20 12 true [15, 7], oG 22 (.call 86 [(.t 18), (.t 21)]) 12 true [13, 16, 7, 7], oG 23 (.un .not (.t 22)) 12 true [17, 7], oN 24 (.pick (.t 12) (.t 23) (.c (.bool false))) [7, 18], oM 4 24 [19, 17, 0, 1, 2, 3, 4, 5, 6, 7, 8, 9, 10, 11, 12, 13, 14, 15, 16, 17, 18, 19]] true) .ret))
theorem mcOkv107 : (match Tryz.f107.body with | some c => Q2 Tryz.prog 25 c | none => none) = some mcv107 := by kernel_rfl
theorem vc107 (p : Pa) (x : Pc) (k : Nat) (w : Int) (c : List Pl) (hw : p.want[k]? = some w) (hc : p.cells[k]? = some c) (hx : ∀ q ∈ x.cuts, OkA c q) (hn : x.cuts.length ≤ 1000) : FC Tryz.prog 107 [.agg (cJ p x), iv (k : Int)] [] (.bool (spoiltB p x k)) [] false := by
  refine Qs (nt := 25) Tryz.func107 rfl rfl mcOkv107 (nL rfl) ?_
  delta mcv107
  refine Qb (Qc (Qf 2 rfl (Qa fun _ => Qd (Qb (Q8 Xr (Qf 4 rfl (Qt (f := civ) (y := w) rfl rfl rfl (by omega) hw (Xh rfl rfl rfl ?_))))))))
  refine QE rfl rfl rfl rfl (fun h11 => ?_) (fun h11 => ?_)
  · skip
    refine Qf 5 rfl (Qt (f := cR) (y := c) rfl rfl rfl (by omega) hc (Qf 4 rfl (Qi [] rfl rfl (vc86 c x.cuts hx hn) (.cons (Qg rfl) (.cons (Qg rfl) (.nil))) rfl (Qf 3 rfl (Qa ⟨by kernel_rfl, fun _ => ?_⟩)))))
    refine Qd (Ql ?_)
    rw [show spoiltB p x k = (!sapartS c x.cuts) from by unfold spoiltB; rw [XO hw, decide_eq_true h11, XO hc]; rfl]
    exact Qk rfl rfl rfl (.inr rfl)
  · skip
    refine Qf 14 rfl (Qa ⟨by kernel_rfl, fun _ => ?_⟩)
    refine Qd (Ql ?_)
    rw [show spoiltB p x k = false from by unfold spoiltB; rw [XO hw, decide_eq_false h11, XO hc]; rfl]
    exact Qk rfl rfl rfl (.inr rfl)
def mcv108 : MC := (.seq (.reg [oN 2 (.box 144 6 (.t 0)) [], oN 4 (.mv (.c (.bool false))) []] false) (.seq (.reg [oA 5 0 2 [], oA 6 2 5 [0], oD 7 1 6 [1], oM 8 1 [], oN 9 (.ixsl 1 (.t 7) (.t 8)) [2, 3], oD 10 1 9 [4], oN 11 (.bin .eql (.t 10) (.c (.int .i64 1))) [5], oM 12 11 [6], pA 13 3 2 12 true [7], pA 14 1 13 12 true [8, 7], pD 15 1 14 12 true [9, 7], pM 16 1 12 true [7], oG 17 (.ixsl 1 (.t 15) (.t 16)) 12 true [10, 11, 7], pD 18 1 17 12 true [12, 7], oN 19 (.pick (.t 12) (.t 18) (.c (.bool false))) [7, 13], oM 4 19 [14, 7, 0, 1, 2, 3, 4, 5, 6, 7, 8, 9, 10, 11, 12, 13, 14]] false) .ret))
theorem mcOkv108 : (match Tryz.f108.body with | some c => Q2 Tryz.prog 20 c | none => none) = some mcv108 := by kernel_rfl
theorem vc108 (p : Pa) (x : Pc) (k : Nat) (w : Int) (b : Bool) (hw : p.want[k]? = some w) (ht : x.touched[k]? = some b) : FC Tryz.prog 108 [.agg (cJ p x), iv (k : Int)] [] (.bool (gougedB p x k)) [] false := by
  refine Qs (nt := 20) Tryz.func108 rfl rfl mcOkv108 (nL rfl) ?_
  delta mcv108
  refine Qb (Qc (Qf 2 rfl (Qa fun _ => Qd (Qb (Qc (Qf 4 rfl (Qt (f := civ) (y := w) rfl rfl rfl (by omega) hw (Xh rfl rfl rfl ?_))))))))
  refine QE rfl rfl rfl rfl (fun h11 => ?_) (fun h11 => ?_)
  · skip
    refine Qf 5 rfl (Qt (f := cB) (y := b) rfl rfl rfl (by omega) ht (Qf 3 rfl (Qa fun _ => Qd (Ql ?_))))
    rw [show gougedB p x k = b from by unfold gougedB; rw [XO hw, decide_eq_true h11, XO ht]; rfl]
    exact Qk rfl rfl rfl (.inr rfl)
  · skip
    refine Qf 9 rfl (Qa fun _ => Qd (Ql ?_))
    rw [show gougedB p x k = false from by unfold gougedB; rw [XO hw, decide_eq_false h11, XO ht]; rfl]
    exact Qk rfl rfl rfl (.inr rfl)
def mcv109 : MC := (.seq (.reg [oN 2 (.box 144 6 (.t 0)) [], oN 4 (.mv (.c (.bool false))) []] false) (.seq (.reg [oA 5 0 2 [], oA 6 2 5 [0], oD 7 1 6 [1], oM 8 1 [], oN 9 (.ixsl 1 (.t 7) (.t 8)) [2, 3], oD 10 1 9 [4], oN 11 (.bin .eql (.t 10) (.c (.int .i64 2))) [5], oM 12 11 [6], pA 13 3 2 12 true [7], pA 14 0 13 12 true [8, 7], pD 15 1 14 12 true [9, 7], pM 16 1 12 true [7], oG 17 (.ixsl 1 (.t 15) (.t 16)) 12 true [10, 11, 7], pD 18 1 17 12 true [12, 7], oG 19 (.un .not (.t 18)) 12 true [13, 7], oN 20 (.pick (.t 12) (.t 19) (.c (.bool false))) [7, 14], oM 4 20 [15, 7, 0, 1, 2, 3, 4, 5, 6, 7, 8, 9, 10, 11, 12, 13, 14, 15]] false) .ret))
theorem mcOkv109 : (match Tryz.f109.body with | some c => Q2 Tryz.prog 21 c | none => none) = some mcv109 := by kernel_rfl
theorem vc109 (p : Pa) (x : Pc) (k : Nat) (w : Int) (b : Bool) (hw : p.want[k]? = some w) (hs : x.sure[k]? = some b) : FC Tryz.prog 109 [.agg (cJ p x), iv (k : Int)] [] (.bool (leftB p x k)) [] false := by
  refine Qs (nt := 21) Tryz.func109 rfl rfl mcOkv109 (nL rfl) ?_
  delta mcv109
  refine Qb (Qc (Qf 2 rfl (Qa fun _ => Qd (Qb (Qc (Qf 4 rfl (Qt (f := civ) (y := w) rfl rfl rfl (by omega) hw (Xh rfl rfl rfl ?_))))))))
  refine QE rfl rfl rfl rfl (fun h11 => ?_) (fun h11 => ?_)
  · skip
    refine Qf 5 rfl (Qt (f := cB) (y := b) rfl rfl rfl (by omega) hs (Qf 4 rfl (Qa fun _ => Qd (Ql ?_))))
    rw [show leftB p x k = (!b) from by unfold leftB; rw [XO hw, decide_eq_true h11, XO hs]; rfl]
    exact Qk rfl rfl rfl (.inr rfl)
  · skip
    refine Qf 10 rfl (Qa fun _ => Qd (Ql ?_))
    rw [show leftB p x k = false from by unfold leftB; rw [XO hw, decide_eq_false h11, XO hs]; rfl]
    exact Qk rfl rfl rfl (.inr rfl)
end Go.Proofs.YthfhaoogcpfboaaGreat

/-! Walks: VS. -/
namespace Go.Proofs.YthfhaoogcpfboaaGreat
open Go.RowKit
set_option maxRecDepth 100000
set_option linter.unusedVariables false
theorem verd_1 {p : Pa} {x : Pc} (h : JF p x ≠ 0) : verdS p x = JF p x := if_pos h
theorem verd_2 {p : Pa} {x : Pc} (h : ¬ JF p x ≠ 0) (h0 : anyK p x 0 = true) : verdS p x = 35 := by unfold verdS; rw [if_neg h, if_pos h0]
theorem verd_3 {p : Pa} {x : Pc} (h : ¬ JF p x ≠ 0) (h0 : anyK p x 0 = false) (h1 : anyK p x 1 = true) : verdS p x = 30 := by unfold verdS; rw [if_neg h, if_neg (by rw [h0]; decide), if_pos h1]
theorem verd_4 {p : Pa} {x : Pc} (h : ¬ JF p x ≠ 0) (h0 : anyK p x 0 = false) (h1 : anyK p x 1 = false) (h2 : anyK p x 2 = true) : verdS p x = 34 := by unfold verdS; rw [if_neg h, if_neg (by rw [h0]; decide), if_neg (by rw [h1]; decide), if_pos h2]
theorem verd_5 {p : Pa} {x : Pc} (h : ¬ JF p x ≠ 0) (h0 : anyK p x 0 = false) (h1 : anyK p x 1 = false) (h2 : anyK p x 2 = false) : verdS p x = 0 := by unfold verdS; rw [if_neg h, if_neg (by rw [h0]; decide), if_neg (by rw [h1]; decide), if_neg (by rw [h2]; decide)]
def mcv60 : MC := (.seq (.reg [oN 2 (.box 31 3 (.t 0)) [], oN 3 (.box 35 3 (.t 1)) [], oN 4 (.mv (.c (.int .i64 0))) []] false) (.seq (.seq (.reg [oN 10 (.ld true 3 (.t 2)) [], oN 11 (.ld true 3 (.t 3)) [], oN 12 (.call 81 [(.t 10), (.t 11)]) [0, 1], oM 5 12 [2, 2, 0, 1, 2]] false) (.seq (.reg [oM 13 5 [], oN 14 (.bin .neq (.t 13) (.c (.int .i64 0))) [0]] false) (.cond (.t 14) (.seq (.reg [oM 15 5 [], oM 4 15 [0, 0]] false) .ret) .skip))) (.seq (.reg [oN 16 (.ld true 3 (.t 2)) [], oN 17 (.ld true 3 (.t 3)) [], oN 18 (.build [(.str (Qu [])), .nils, .nils, .nils, .nils, .nils] [(0, (3, (.t 16))), (3, (3, (.t 17)))]) [0, 1], oN 6 (.alloc 144 6 [(.str (Qu [])), .nils, .nils, .nils, .nils, .nils]) [], ⟨none, (.st 6 (.t 6) (.t 18)), none, [3, 2, 0, 1, 2, 3]⟩] false) (.seq (.seq (.reg [oN 19 (.ld true 6 (.t 6)) [], oN 20 (.mkbnd 107 (.t 19)) [0], oN 21 (.build [.nilf, (.int .i64 0)] [(0, (1, (.t 20))), (1, (1, (.c (.int .i64 35))))]) [1], oN 22 (.ld true 6 (.t 6)) [], oN 23 (.mkbnd 108 (.t 22)) [3], oN 24 (.build [.nilf, (.int .i64 0)] [(0, (1, (.t 23))), (1, (1, (.c (.int .i64 30))))]) [4], oN 25 (.ld true 6 (.t 6)) [], oN 26 (.mkbnd 109 (.t 25)) [6], oN 27 (.build [.nilf, (.int .i64 0)] [(0, (1, (.t 26))), (1, (1, (.c (.int .i64 34))))]) [7], oN 28 (.bslice 145 2 [.nilf, (.int .i64 0)] 3 [(0, (.t 21)), (1, (.t 24)), (2, (.t 27))]) [2, 5, 8], oN 29 (.len (.t 28)) [9], oN 30 (.mv (.c (.int .i64 0))) []] false) (.block 0 (.loop (.seq (.reg [oN 31 (.bin .lss (.t 30) (.t 29)) []] false) (.seq (.cond (.t 31) .skip (.exit 0)) (.seq (.block 1 (.seq (.reg [oN 32 (.ixsl 2 (.t 28) (.t 30)) [], oN 33 (.ld true 2 (.t 32)) [0], oN 8 (.alloc 145 2 [.nilf, (.int .i64 0)]) [], ⟨none, (.st 2 (.t 8) (.t 33)), none, [2, 1, 0, 1, 2]⟩] false) (.seq (.reg [oA 34 1 2 [], oD 35 1 34 [0], oN 36 (.len (.t 35)) [1], oN 37 (.mv (.c (.int .i64 0))) []] false) (.block 2 (.loop (.seq (.reg [oN 38 (.bin .lss (.t 37) (.t 36)) []] false) (.seq (.cond (.t 38) .skip (.exit 2)) (.seq (.block 3 (.seq (.reg [oM 39 37 [], oM 9 39 [0, 0]] false) (.seq (.reg [oA 40 0 8 [], oD 41 1 40 [0], oM 42 9 [], oN 43 (.callv (.t 41) [(.t 42)]) [1, 2]] false) (.cond (.t 43) (.seq (.reg [oA 44 1 8 [], oD 45 1 44 [0], oM 4 45 [1, 0, 1]] false) .ret) .skip)))) (.reg [oN 46 (.bin .add (.t 37) (.c (.int .i64 1))) [], oM 37 46 [0]] false))))))))) (.reg [oN 47 (.bin .add (.t 30) (.c (.int .i64 1))) [], oM 30 47 [0]] false))))))) (.seq (.reg [oN 4 (.mv (.c (.int .i64 0))) []] false) .ret)))))
theorem mcOkv60 : (match Tryz.f60.body with | some c => Q2 Tryz.prog 48 c | none => none) = some mcv60 := by kernel_rfl
set_option maxHeartbeats 2000000 in
theorem vc60 (p : Pa) (hp : PaOK p) (x : Pc) (hx : PcOK x) : FC Tryz.prog 60 [.agg (cPa p), .agg (cPc x)] [] (iv (verdS p x)) [] false := by
  have hpn := hp.n
  have hxn := hx.n
  refine Qs (nt := 48) Tryz.func60 rfl rfl mcOkv60 (nL rfl) ?_
  delta mcv60
  refine Qb (Qc (Qf 3 rfl (Qa fun _ => Qd (Qb (Qb (Qc (Qo rfl rfl rfl rfl (nL rfl) rfl (Qo rfl rfl rfl rfl (nL rfl) rfl ?_))))))))
  refine Qi [] rfl rfl (vc81 p hp x hx) (.cons (Qg rfl) (.cons (Qg rfl) (.nil))) rfl (Qe rfl rfl (Qa fun _ => Qd (Qb (Qc (Qe rfl rfl (JD rfl rfl rfl (Qa fun _ => Qd ?_)))))))
  refine Qh rfl (fun h14 => ?_) (fun h14 => ?_)
  · replace h14 := of_decide_eq_true h14
    refine Qb ?_
    
    refine Qc (Qf 2 rfl (Qa fun _ => Qd (Ql (Q1 ?_))))
    rw [verd_1 h14]
    exact Qk rfl rfl rfl (.inr rfl)
  · replace h14 := of_decide_eq_false h14
    refine Qn (Qd (Qb ?_))
    have hfit : JF p x = 0 := by omega
    obtain ⟨hl1, hl2, hl3, _, _⟩ := fit_len hfit
    refine Qc (Qo rfl rfl rfl rfl (nL rfl) rfl (Qo rfl rfl rfl rfl (nL rfl) rfl (Qf 2 rfl (Q0 rfl rfl rfl rfl rfl rfl rfl (nL rfl) rfl rfl (Qa fun _ => Qd (Qb (Qb (Qc ?_))))))))
    refine Qo rfl rfl rfl rfl (nL rfl) rfl (rs_mkbnd rfl rfl (QU rfl rfl (Qo rfl rfl rfl rfl (nL rfl) rfl (rs_mkbnd rfl rfl (QU rfl rfl (Qo rfl rfl rfl rfl (nL rfl) rfl (rs_mkbnd rfl rfl (QU rfl rfl (Qv (l := [.bnd (.func 107) (.agg (cJ p x)), iv 35, .bnd (.func 108) (.agg (cJ p x)), iv 30, .bnd (.func 109) (.agg (cJ p x)), iv 34]) (els := [[.bnd (.func 107) (.agg (cJ p x)), iv 35], [.bnd (.func 108) (.agg (cJ p x)), iv 30], [.bnd (.func 109) (.agg (cJ p x)), iv 34]]) (fl := false) rfl (by kernel_rfl) rfl rfl (by kernel_rfl) (by kernel_rfl) ?_)))))))))
    refine Xu rfl rfl (Qe rfl rfl (Qa fun _ => Qd (Qm ?_)))
    refine QC (α := Nat) (fun i => 3 - i) (fun i => [(2, .ptr 2 0 0), (28, .sl 28 0 3), (29, iv 3), (30, iv (((i) : Nat) : Int))]) (fun i => [(2, .cells 31 3 [cPa p] true), (28, .cells 145 2 [[.bnd (.func 107) (.agg (cJ p x)), iv 35], [.bnd (.func 108) (.agg (cJ p x)), iv 30], [.bnd (.func 109) (.agg (cJ p x)), iv 34]] false)]) (fun i => i ≤ 3 ∧ (1 ≤ i → anyK p x 0 = false) ∧ (2 ≤ i → anyK p x 1 = false) ∧ (3 ≤ i → anyK p x 2 = false)) 0 (⟨by omega, fun h => by omega, fun h => by omega, fun h => by omega⟩)
      (Qj (.cs (.cs (.cs (.cs (.nil))))) (.keep (rfl) rfl (.keep (rfl) rfl (.nil))) (fun i h => by cases h)) ?_
    rintro i ⟨hi, hi0, hi1, hi2⟩
    refine Qb (Qc (QJ rfl rfl rfl (Qa fun _ => Qd (Qb (Qh rfl (fun h31 => ?_) (fun h31 => ?_))))))
    · replace h31 := of_decide_eq_true h31
      refine Qn (Qd (Qb (Qm (Qb (Qc ?_)))))
      obtain rfl | rfl | rfl : i = 0 ∨ i = 1 ∨ i = 2 := by omega
      · skip
        refine Jw rfl rfl rfl rfl (by decide) (by decide) (Qo rfl rfl rfl rfl (nL rfl) rfl (QF rfl rfl rfl (Q0 rfl rfl rfl rfl rfl rfl rfl (nL rfl) rfl rfl (Qa fun _ => Qd (Qb (Qc (Qf 2 rfl (Qq rfl rfl ?_))))))))
        refine Qe rfl rfl (Qa fun _ => Qd (Qm ?_))
        refine QC (α := Nat) (fun j => p.cells.length - j) (fun j => [(2, .ptr 2 0 0), (28, .sl 28 0 3), (29, iv 3), (30, iv (((0) : Nat) : Int)), (8, .ptr 8 0 0), (35, .rs 1 (p.cells.map cR)), (36, iv (p.cells.length : Int)), (37, iv (((j) : Nat) : Int))]) (fun j => [(2, .cells 31 3 [cPa p] true), (28, .cells 145 2 [[.bnd (.func 107) (.agg (cJ p x)), iv 35], [.bnd (.func 108) (.agg (cJ p x)), iv 30], [.bnd (.func 109) (.agg (cJ p x)), iv 34]] false), (8, .cells 145 2 [[.bnd (.func 107) (.agg (cJ p x)), iv 35]] false)]) (fun j => j ≤ p.cells.length ∧ ∀ m, m < j → badK p x 0 m = false) 0 (⟨by omega, fun m hm => by omega⟩)
          (Qj (.cs (.cs (.cs (.cs (.cs (.cs (.cs (.cs (.nil))))))))) (.keep (rfl) rfl (.keep (rfl) rfl (.keep (rfl) rfl (.nil)))) (fun i h => by cases h)) ?_
        rintro j ⟨hj, hinv⟩
        refine Qb (Qc (QJ rfl rfl rfl (Qa fun _ => Qd (Qb (Qh rfl (fun h38 => ?_) (fun h38 => ?_))))))
        · replace h38 := of_decide_eq_true h38
          refine Qn (Qd (Qb (Qm (Qb (Qc (Qf 2 rfl (Qa fun _ => Qd (Qb ?_))))))))
          refine Qc (Q9 rfl rfl ?_)
          obtain ⟨c, hck, hcm⟩ := Qy (L := p.cells) (k := j) (by omega)
          obtain ⟨w, hwk, hwm⟩ := Qy (L := p.want) (k := j) (by omega)
          refine Qf 2 rfl (rs_callb [] rfl rfl (by kernel_rfl) rfl (fc_up (vc107 p x j w c hwk hck (fun q hq => ⟨hp.c c hcm, hx.c q hq⟩) hxn)) (.cons (Qg rfl) (.cons (Qg rfl) .nil)) .nil rfl rfl rfl ?_)
          cases h43 : spoiltB p x j
          · skip
            refine Qa fun _ => Qd (Qh rfl (fun h => by cases h) (fun _ => ?_))
            refine Qn (QI (Qd (Qc (Qx rfl rfl rfl (by omega) (Qe rfl rfl (Qa fun _ => Qd ?_))))))
            exact ⟨j + 1, ⟨by omega, fun m hm => by rcases Nat.lt_succ_iff_lt_or_eq.1 hm with h | h; exact hinv m h; rw [h]; exact h43⟩, by omega, Qj (.cs (.cs (.cs (.cs (.cs (.cs (.cs (.cs (.nil))))))))) (.keep (rfl) rfl (.keep (rfl) rfl (.keep (rfl) rfl (.nil)))) (fun i h => by cases h)⟩
          · skip
            refine Qa fun _ => Qd (Qh rfl (fun _ => ?_) (fun h => by cases h))
            refine Qb (Qc (Qf 3 rfl (Qa fun _ => Qd (Ql (QL (Q1 (Q1 (QL ?_))))))))
            refine QL (Q1 (Q1 (QL (Q1 ?_))))
            have hk3 : anyK p x 0 = true := anyK_t (by omega) h43
            rw [verd_2 h14  hk3]
            exact Qk rfl rfl rfl (.inr rfl)
        · replace h38 := of_decide_eq_false h38
          refine Q3 (QB (QB (QA (QI (Qd (Qc (Qx rfl rfl rfl (by omega) (Qe rfl rfl (Qa fun _ => ?_)))))))))
          refine Qd ?_
          exact ⟨0 + 1, ⟨by decide, fun hm => anyK_f fun m hm => hinv m (by omega), fun hm => absurd hm (by decide), fun hm => absurd hm (by decide)⟩, by decide, Qj (.cs (.cs (.cs (.cs (.nil))))) (.keep (rfl) rfl (.keep (rfl) rfl (.nil))) (fun i h => by cases h)⟩
      · skip
        refine Jw rfl rfl rfl rfl (by decide) (by decide) (Qo rfl rfl rfl rfl (nL rfl) rfl (QF rfl rfl rfl (Q0 rfl rfl rfl rfl rfl rfl rfl (nL rfl) rfl rfl (Qa fun _ => Qd (Qb (Qc (Qf 2 rfl (Qq rfl rfl ?_))))))))
        refine Qe rfl rfl (Qa fun _ => Qd (Qm ?_))
        refine QC (α := Nat) (fun j => p.cells.length - j) (fun j => [(2, .ptr 2 0 0), (28, .sl 28 0 3), (29, iv 3), (30, iv (((1) : Nat) : Int)), (8, .ptr 8 0 0), (35, .rs 1 (p.cells.map cR)), (36, iv (p.cells.length : Int)), (37, iv (((j) : Nat) : Int))]) (fun j => [(2, .cells 31 3 [cPa p] true), (28, .cells 145 2 [[.bnd (.func 107) (.agg (cJ p x)), iv 35], [.bnd (.func 108) (.agg (cJ p x)), iv 30], [.bnd (.func 109) (.agg (cJ p x)), iv 34]] false), (8, .cells 145 2 [[.bnd (.func 108) (.agg (cJ p x)), iv 30]] false)]) (fun j => j ≤ p.cells.length ∧ ∀ m, m < j → badK p x 1 m = false) 0 (⟨by omega, fun m hm => by omega⟩)
          (Qj (.cs (.cs (.cs (.cs (.cs (.cs (.cs (.cs (.nil))))))))) (.keep (rfl) rfl (.keep (rfl) rfl (.keep (rfl) rfl (.nil)))) (fun i h => by cases h)) ?_
        rintro j ⟨hj, hinv⟩
        refine Qb (Qc (QJ rfl rfl rfl (Qa fun _ => Qd (Qb (Qh rfl (fun h38 => ?_) (fun h38 => ?_))))))
        · replace h38 := of_decide_eq_true h38
          refine Qn (Qd (Qb (Qm (Qb (Qc (Qf 2 rfl (Qa fun _ => Qd (Qb ?_))))))))
          refine Qc (Q9 rfl rfl ?_)
          obtain ⟨b, hbk, hbm⟩ := Qy (L := x.touched) (k := j) (by omega)
          obtain ⟨w, hwk, hwm⟩ := Qy (L := p.want) (k := j) (by omega)
          refine Qf 2 rfl (rs_callb [] rfl rfl (by kernel_rfl) rfl (fc_up (vc108 p x j w b hwk hbk)) (.cons (Qg rfl) (.cons (Qg rfl) .nil)) .nil rfl rfl rfl ?_)
          cases h43 : gougedB p x j
          · skip
            refine Qa fun _ => Qd (Qh rfl (fun h => by cases h) (fun _ => ?_))
            refine Qn (QI (Qd (Qc (Qx rfl rfl rfl (by omega) (Qe rfl rfl (Qa fun _ => Qd ?_))))))
            exact ⟨j + 1, ⟨by omega, fun m hm => by rcases Nat.lt_succ_iff_lt_or_eq.1 hm with h | h; exact hinv m h; rw [h]; exact h43⟩, by omega, Qj (.cs (.cs (.cs (.cs (.cs (.cs (.cs (.cs (.nil))))))))) (.keep (rfl) rfl (.keep (rfl) rfl (.keep (rfl) rfl (.nil)))) (fun i h => by cases h)⟩
          · skip
            refine Qa fun _ => Qd (Qh rfl (fun _ => ?_) (fun h => by cases h))
            refine Qb (Qc (Qf 3 rfl (Qa fun _ => Qd (Ql (QL (Q1 (Q1 (QL ?_))))))))
            refine QL (Q1 (Q1 (QL (Q1 ?_))))
            have hk3 : anyK p x 1 = true := anyK_t (by omega) h43
            rw [verd_3 h14 (hi0 (by decide)) hk3]
            exact Qk rfl rfl rfl (.inr rfl)
        · replace h38 := of_decide_eq_false h38
          refine Q3 (QB (QB (QA (QI (Qd (Qc (Qx rfl rfl rfl (by omega) (Qe rfl rfl (Qa fun _ => ?_)))))))))
          refine Qd ?_
          exact ⟨1 + 1, ⟨by decide, fun hm => hi0 (by omega), fun hm => anyK_f fun m hm => hinv m (by omega), fun hm => absurd hm (by decide)⟩, by decide, Qj (.cs (.cs (.cs (.cs (.nil))))) (.keep (rfl) rfl (.keep (rfl) rfl (.nil))) (fun i h => by cases h)⟩
      · skip
        refine Jw rfl rfl rfl rfl (by decide) (by decide) (Qo rfl rfl rfl rfl (nL rfl) rfl (QF rfl rfl rfl (Q0 rfl rfl rfl rfl rfl rfl rfl (nL rfl) rfl rfl (Qa fun _ => Qd (Qb (Qc (Qf 2 rfl (Qq rfl rfl ?_))))))))
        refine Qe rfl rfl (Qa fun _ => Qd (Qm ?_))
        refine QC (α := Nat) (fun j => p.cells.length - j) (fun j => [(2, .ptr 2 0 0), (28, .sl 28 0 3), (29, iv 3), (30, iv (((2) : Nat) : Int)), (8, .ptr 8 0 0), (35, .rs 1 (p.cells.map cR)), (36, iv (p.cells.length : Int)), (37, iv (((j) : Nat) : Int))]) (fun j => [(2, .cells 31 3 [cPa p] true), (28, .cells 145 2 [[.bnd (.func 107) (.agg (cJ p x)), iv 35], [.bnd (.func 108) (.agg (cJ p x)), iv 30], [.bnd (.func 109) (.agg (cJ p x)), iv 34]] false), (8, .cells 145 2 [[.bnd (.func 109) (.agg (cJ p x)), iv 34]] false)]) (fun j => j ≤ p.cells.length ∧ ∀ m, m < j → badK p x 2 m = false) 0 (⟨by omega, fun m hm => by omega⟩)
          (Qj (.cs (.cs (.cs (.cs (.cs (.cs (.cs (.cs (.nil))))))))) (.keep (rfl) rfl (.keep (rfl) rfl (.keep (rfl) rfl (.nil)))) (fun i h => by cases h)) ?_
        rintro j ⟨hj, hinv⟩
        refine Qb (Qc (QJ rfl rfl rfl (Qa fun _ => Qd (Qb (Qh rfl (fun h38 => ?_) (fun h38 => ?_))))))
        · replace h38 := of_decide_eq_true h38
          refine Qn (Qd (Qb (Qm (Qb (Qc (Qf 2 rfl (Qa fun _ => Qd (Qb ?_))))))))
          refine Qc (Q9 rfl rfl ?_)
          obtain ⟨b, hbk, hbm⟩ := Qy (L := x.sure) (k := j) (by omega)
          obtain ⟨w, hwk, hwm⟩ := Qy (L := p.want) (k := j) (by omega)
          refine Qf 2 rfl (rs_callb [] rfl rfl (by kernel_rfl) rfl (fc_up (vc109 p x j w b hwk hbk)) (.cons (Qg rfl) (.cons (Qg rfl) .nil)) .nil rfl rfl rfl ?_)
          cases h43 : leftB p x j
          · skip
            refine Qa fun _ => Qd (Qh rfl (fun h => by cases h) (fun _ => ?_))
            refine Qn (QI (Qd (Qc (Qx rfl rfl rfl (by omega) (Qe rfl rfl (Qa fun _ => Qd ?_))))))
            exact ⟨j + 1, ⟨by omega, fun m hm => by rcases Nat.lt_succ_iff_lt_or_eq.1 hm with h | h; exact hinv m h; rw [h]; exact h43⟩, by omega, Qj (.cs (.cs (.cs (.cs (.cs (.cs (.cs (.cs (.nil))))))))) (.keep (rfl) rfl (.keep (rfl) rfl (.keep (rfl) rfl (.nil)))) (fun i h => by cases h)⟩
          · skip
            refine Qa fun _ => Qd (Qh rfl (fun _ => ?_) (fun h => by cases h))
            refine Qb (Qc (Qf 3 rfl (Qa fun _ => Qd (Ql (QL (Q1 (Q1 (QL ?_))))))))
            refine QL (Q1 (Q1 (QL (Q1 ?_))))
            have hk3 : anyK p x 2 = true := anyK_t (by omega) h43
            rw [verd_4 h14 (hi0 (by decide)) (hi1 (by decide)) hk3]
            exact Qk rfl rfl rfl (.inr rfl)
        · replace h38 := of_decide_eq_false h38
          refine Q3 (QB (QB (QA (QI (Qd (Qc (Qx rfl rfl rfl (by omega) (Qe rfl rfl (Qa fun _ => ?_)))))))))
          refine Qd ?_
          exact ⟨2 + 1, ⟨by decide, fun hm => hi0 (by omega), fun hm => hi1 (by omega), fun hm => anyK_f fun m hm => hinv m (by omega)⟩, by decide, Qj (.cs (.cs (.cs (.cs (.nil))))) (.keep (rfl) rfl (.keep (rfl) rfl (.nil))) (fun i h => by cases h)⟩
    · replace h31 := of_decide_eq_false h31
      refine Q3 (QB (QB (QA (Qd (Qb (Qc (Qe rfl rfl (Qa fun _ => Qd ?_))))))))
      refine Ql ?_
      obtain rfl : i = 3 := by omega
      rw [verd_5 h14 (hi0 (by decide)) (hi1 (by decide)) (hi2 (by decide))]
      exact Qk rfl rfl rfl (.inr rfl)
def mcv16 : MC := (.seq (.reg [oN 3 (.box 31 3 (.t 0)) [], oN 4 (.box 35 3 (.t 1)) [], oN 6 (.mv (.c .nils)) []] false) (.seq (.reg [oN 12 (.ld true 3 (.t 3)) [], oN 13 (.ld true 3 (.t 4)) [], oN 14 (.call 60 [(.t 12), (.t 13)]) [0, 1], oM 7 14 [2, 2, 0, 1, 2]] false) (.seq (.reg [oM 15 7 [], oN 16 (.bin .eql (.t 15) (.c (.int .i64 0))) [0], oM 17 16 [1], pM 18 7 17 false [2], oG 19 (.bin .eql (.t 18) (.c (.int .i64 35))) 17 false [3, 2], oN 20 (.pick (.t 17) (.c (.bool true)) (.t 19)) [2, 4], oM 21 20 [5, 2], pM 22 7 21 false [6], oG 23 (.bin .eql (.t 22) (.c (.int .i64 30))) 21 false [7, 6], oN 24 (.pick (.t 21) (.c (.bool true)) (.t 23)) [6, 8], oM 25 24 [9, 6], pM 26 7 25 false [10], oG 27 (.bin .eql (.t 26) (.c (.int .i64 34))) 25 false [11, 10], oN 28 (.pick (.t 25) (.c (.bool true)) (.t 27)) [10, 12], oM 8 28 [13, 10, 0, 1, 2, 3, 4, 5, 6, 7, 8, 9, 10, 11, 12, 13]] false) (.seq (.seq (.reg [oM 29 8 [], oN 30 (.un .not (.t 29)) [0], oM 31 30 [1], pM 32 2 31 false [2], oG 33 (.seq false (.t 32) (.c (.str (Qu [])))) 31 false [3, 2], oN 34 (.pick (.t 31) (.c (.bool true)) (.t 33)) [2, 4]] false) (.cond (.t 34) (.seq (.reg [oN 6 (.mv (.c .nils)) []] false) .ret) .skip)) (.seq (.reg [oN 9 (.mv (.c .nils)) []] false) (.seq (.seq (.reg [oA 35 2 3 [], oD 36 1 35 [0], oN 37 (.len (.t 36)) [1], oN 38 (.mv (.c (.int .i64 0))) []] false) (.block 0 (.loop (.seq (.reg [oN 39 (.bin .lss (.t 38) (.t 37)) []] false) (.seq (.cond (.t 39) .skip (.exit 0)) (.seq (.block 1 (.seq (.reg [oM 40 38 [], oN 41 (.ixsl 1 (.t 36) (.t 38)) [], oD 42 1 41 [1], oM 10 40 [0, 0, 1, 2], oM 11 42 [2, 3, 0, 1, 2, 3]] false) (.reg [oM 43 9 [], oM 44 10 [], oM 45 11 [], oA 46 0 4 [], oD 47 1 46 [3], oM 48 10 [], oN 49 (.ixsl 1 (.t 47) (.t 48)) [4, 5], oD 50 1 49 [6], oA 51 1 4 [], oD 52 1 51 [8], oM 53 10 [], oN 54 (.ixsl 1 (.t 52) (.t 53)) [9, 10], oD 55 1 54 [11], oM 56 2 [], oM 57 10 [], oN 58 (.call 61 [(.t 57)]) [14], oN 59 (.call 40 [(.t 56), (.t 58)]) [13, 15, 15], oN 60 (.build [(.int .i64 0), (.int .i64 0), (.bool false), (.bool false), (.str (Qu []))] [(0, (1, (.t 44))), (1, (1, (.t 45))), (2, (1, (.t 50))), (3, (1, (.t 55))), (4, (1, (.t 59)))]) [1, 2, 7, 12, 16], oN 61 (.bslice 51 5 [(.int .i64 0), (.int .i64 0), (.bool false), (.bool false), (.str (Qu []))] 1 [(0, (.t 60))]) [17], oN 62 (.app 51 5 40 [(.int .i64 0), (.int .i64 0), (.bool false), (.bool false), (.str (Qu []))] (.t 43) (.t 61)) [0, 18, 16], oM 9 62 [19, 19, 0, 1, 2, 3, 4, 5, 6, 7, 8, 9, 10, 11, 12, 13, 14, 15, 16, 17, 18, 19]] true))) (.reg [oN 63 (.bin .add (.t 38) (.c (.int .i64 1))) [], oM 38 63 [0]] false))))))) (.seq (.reg [oM 64 9 [], oM 6 64 [0, 0]] false) .ret)))))))
theorem mcOkv16 : (match Tryz.f16.body with | some c => Q2 Tryz.prog 65 c | none => none) = some mcv16 := by kernel_rfl
set_option maxHeartbeats 2000000 in
theorem vc16 (p : Pa) (hp : PaOK p) (x : Pc) (hx : PcOK x) (s : List Int) (hs : B8 s ∧ s.length ≤ LIM) : FC Tryz.prog 16 [.agg (cPa p), .agg (cPc x), .str (Qu s)] [] (.rs 5 ((X9 p x s).map cLf)) [] false := by
  have hpn := hp.n
  have hxn := hx.n
  refine Qs (nt := 65) Tryz.func16 rfl rfl mcOkv16 (nL rfl) ?_
  delta mcv16
  refine Qb (Qc (Qf 3 rfl (Qa fun _ => Qd (Qb (Qc (Qo rfl rfl rfl rfl (nL rfl) rfl (Qo rfl rfl rfl rfl (nL rfl) rfl (Qi [] rfl rfl (vc60 p hp x hx) (.cons (Qg rfl) (.cons (Qg rfl) (.nil))) rfl ?_))))))))
  refine Qe rfl rfl (Qa fun _ => Qd (Qb (Qc (Qe rfl rfl (QE rfl rfl rfl rfl (fun h16 => ?_) (fun h16 => ?_))))))
  · skip
    refine Qf 13 rfl (Qa fun _ => Qd (Qb (Qb (Qc (Qf 4 rfl (rs_seq (r := decide (s = [])) rfl rfl rfl hs.1 (fun x hx => by cases hx) (by by_cases e : s = [] <;> simp [e]) ?_))))))
    cases h33 : decide (s = [])
    · skip
      refine QM rfl rfl rfl (Qa fun _ => Qd (Qh rfl (fun h => by cases h) (fun _ => ?_)))
      refine Qn (Qd (Qb ?_))
      have hfine : fineB (verdS p x) = true := by unfold fineB; rw [decide_eq_true h16]; rfl
      have hfit := fine_fit hfine
      obtain ⟨hl1, hl2, hl3, _, _⟩ := fit_len hfit
      refine Qc (Qe rfl rfl (Qa fun _ => Qd (Qb (Qb (Qc (Qf 2 rfl (Qq rfl rfl (Qe rfl rfl ?_))))))))
      refine Qa fun _ => Qd (Qm ?_)
      refine QC (α := Nat) (fun k => p.want.length - k) (fun k => [(2, .str (Qu s)), (4, .ptr 4 0 0), (36, .rs 1 (p.want.map civ)), (37, iv (p.want.length : Int)), (38, iv (((k) : Nat) : Int)), (9, .sl 901 0 (k))]) (fun k => [(4, .cells 35 3 [cPc x] true), (901, .cells 51 5 (((List.range (k)).map (J2 p x s)).map cLf) true)]) (fun k => k ≤ p.want.length) 0 (by omega)
        (Qj (.cs (.cs (.cs (.cs (.cs (.cons rfl (J7 rfl rfl) (.nil))))))) (.keep (rfl) rfl (.virt rfl (.nil))) (fun i h => by cases h)) ?_
      intro k hk
      refine Qb (Qc (QJ rfl rfl rfl (Qa fun _ => Qd (Qb (Qh rfl (fun h39 => ?_) (fun h39 => ?_))))))
      · replace h39 := of_decide_eq_true h39
        refine Qn (Qd (Qb (Qm (Qb (Qc (Qe rfl rfl ?_))))))
        obtain ⟨w, hwk, hwm⟩ := Qy (L := p.want) (k := k) (by omega)
        obtain ⟨a, hak, ham⟩ := Qy (L := x.sure) (k := k) (by omega)
        obtain ⟨b, hbk, hbm⟩ := Qy (L := x.touched) (k := k) (by omega)
        refine Qt (f := civ) (y := w) rfl rfl rfl (by omega) hwk (Qf 3 rfl (Qa fun _ => Qd (Q8 Xr (Qf 6 rfl (Qt (f := cB) (y := a) rfl rfl rfl (by omega) hak (Qf 4 rfl (Qt (f := cB) (y := b) rfl rfl rfl (by omega) hbk (Qf 3 rfl ?_))))))))
        refine Qi [] rfl rfl (vc61 (k : Int) ⟨by omega, by omega⟩) (.cons (Qg rfl) (.nil)) rfl (Qi [] rfl rfl (vc40 s (XK (k : Int)) hs ⟨vint_8 _, Nat.le_trans (XA _) (by decide)⟩) (.cons (Qg rfl) (.cons (Qg rfl) (.nil))) rfl (QU rfl rfl (Qv (l := (([⟨(k : Int), w, a, b, XH s (XK (k : Int))⟩] : List Lf)).flatMap cLf) (els := (([⟨(k : Int), w, a, b, XH s (XK (k : Int))⟩] : List Lf)).map cLf) (fl := true) rfl (by kernel_rfl) rfl rfl (by kernel_rfl) (by kernel_rfl) (QV (f := cLf) (xs := (List.range k).map (J2 p x s)) (y := ⟨(k : Int), w, a, b, XH s (XK (k : Int))⟩) (fl' := true) rfl rfl rfl rfl (by simp) rfl rfl rfl (by decide) rfl (by omega) (by omega) rfl (Qe rfl rfl (Qa ⟨by kernel_rfl, fun _ => ?_⟩))))))
        refine QI (Qd (Qc (Qx rfl rfl rfl (by omega) (Qe rfl rfl (Qa fun _ => Qd ?_)))))
        exact ⟨k + 1, by omega, by omega, QQ (i := 62) (i' := 901) (F1 := [(2, .str (Qu s)), (4, .ptr 4 0 0), (36, .rs 1 (p.want.map civ)), (37, iv (p.want.length : Int)), (38, iv (((k + 1) : Nat) : Int)), (9, .sl 62 0 (k + 1))]) (H1 := [(4, .cells 35 3 [cPc x] true), (62, .cells 51 5 (((List.range (k + 1)).map (J2 p x s)).map cLf) true)]) (.cs (.cs (.cs (.cs (.cs (.cs (.nil))))))) (.keep (rfl) rfl (.keep (by rw [leaf_snoc hwk hak hbk]; rfl) rfl (.nil))) (fun i h => by cases h) rfl rfl (.cons rfl (.same _) (.cons rfl (.same _) (.cons rfl (.same _) (.cons rfl (.same _) (.cons rfl (.same _) (.cons rfl (.sl _ _) (.nil))))))) (.cs (.cs (.cs (.cs (.cs (.cs (.nil))))))) (.keep (rfl) rfl (.keep (rfl) rfl (.nil))) (fun i h => by cases h)⟩
      · replace h39 := of_decide_eq_false h39
        refine Q3 (QB (QB (QA (Qd (Qb (Qc (Qf 2 rfl (Qa fun _ => Qd ?_))))))))
        refine Ql ?_
        obtain rfl : k = p.want.length := by omega
        rw [show X9 p x s = (List.range p.want.length).map (J2 p x s) from by unfold X9; rw [if_pos ⟨hfine, of_decide_eq_false h33⟩]]
        exact Q5 rfl (QK (f := cLf) (xs := (List.range p.want.length).map (J2 p x s)) rfl rfl (by simp) (fun _ => rfl)) .nil
    · skip
      refine QM rfl rfl rfl (Qa fun _ => Qd (Qh rfl (fun _ => ?_) (fun h => by cases h)))
      refine Qb (Qc (Qe rfl rfl (Qa fun _ => Qd (Ql (Q1 ?_)))))
      rw [show X9 p x s = [] from by unfold X9; rw [if_neg (fun h => h.2 (of_decide_eq_true h33))]]
      exact Q5 rfl QW .nil
  · skip
    refine Qf 2 rfl (QE rfl rfl rfl rfl (fun h19 => ?_) (fun h19 => ?_))
    · skip
      refine Qf 10 rfl (Qa fun _ => Qd (Qb (Qb (Qc (Qf 4 rfl (rs_seq (r := decide (s = [])) rfl rfl rfl hs.1 (fun x hx => by cases hx) (by by_cases e : s = [] <;> simp [e]) ?_))))))
      cases h33 : decide (s = [])
      · skip
        refine QM rfl rfl rfl (Qa fun _ => Qd (Qh rfl (fun h => by cases h) (fun _ => ?_)))
        refine Qn (Qd (Qb ?_))
        have hfine : fineB (verdS p x) = true := by unfold fineB; rw [decide_eq_false h16, decide_eq_true h19]; rfl
        have hfit := fine_fit hfine
        obtain ⟨hl1, hl2, hl3, _, _⟩ := fit_len hfit
        refine Qc (Qe rfl rfl (Qa fun _ => Qd (Qb (Qb (Qc (Qf 2 rfl (Qq rfl rfl (Qe rfl rfl ?_))))))))
        refine Qa fun _ => Qd (Qm ?_)
        refine QC (α := Nat) (fun k => p.want.length - k) (fun k => [(2, .str (Qu s)), (4, .ptr 4 0 0), (36, .rs 1 (p.want.map civ)), (37, iv (p.want.length : Int)), (38, iv (((k) : Nat) : Int)), (9, .sl 901 0 (k))]) (fun k => [(4, .cells 35 3 [cPc x] true), (901, .cells 51 5 (((List.range (k)).map (J2 p x s)).map cLf) true)]) (fun k => k ≤ p.want.length) 0 (by omega)
          (Qj (.cs (.cs (.cs (.cs (.cs (.cons rfl (J7 rfl rfl) (.nil))))))) (.keep (rfl) rfl (.virt rfl (.nil))) (fun i h => by cases h)) ?_
        intro k hk
        refine Qb (Qc (QJ rfl rfl rfl (Qa fun _ => Qd (Qb (Qh rfl (fun h39 => ?_) (fun h39 => ?_))))))
        · replace h39 := of_decide_eq_true h39
          refine Qn (Qd (Qb (Qm (Qb (Qc (Qe rfl rfl ?_))))))
          obtain ⟨w, hwk, hwm⟩ := Qy (L := p.want) (k := k) (by omega)
          obtain ⟨a, hak, ham⟩ := Qy (L := x.sure) (k := k) (by omega)
          obtain ⟨b, hbk, hbm⟩ := Qy (L := x.touched) (k := k) (by omega)
          refine Qt (f := civ) (y := w) rfl rfl rfl (by omega) hwk (Qf 3 rfl (Qa fun _ => Qd (Q8 Xr (Qf 6 rfl (Qt (f := cB) (y := a) rfl rfl rfl (by omega) hak (Qf 4 rfl (Qt (f := cB) (y := b) rfl rfl rfl (by omega) hbk (Qf 3 rfl ?_))))))))
          refine Qi [] rfl rfl (vc61 (k : Int) ⟨by omega, by omega⟩) (.cons (Qg rfl) (.nil)) rfl (Qi [] rfl rfl (vc40 s (XK (k : Int)) hs ⟨vint_8 _, Nat.le_trans (XA _) (by decide)⟩) (.cons (Qg rfl) (.cons (Qg rfl) (.nil))) rfl (QU rfl rfl (Qv (l := (([⟨(k : Int), w, a, b, XH s (XK (k : Int))⟩] : List Lf)).flatMap cLf) (els := (([⟨(k : Int), w, a, b, XH s (XK (k : Int))⟩] : List Lf)).map cLf) (fl := true) rfl (by kernel_rfl) rfl rfl (by kernel_rfl) (by kernel_rfl) (QV (f := cLf) (xs := (List.range k).map (J2 p x s)) (y := ⟨(k : Int), w, a, b, XH s (XK (k : Int))⟩) (fl' := true) rfl rfl rfl rfl (by simp) rfl rfl rfl (by decide) rfl (by omega) (by omega) rfl (Qe rfl rfl (Qa ⟨by kernel_rfl, fun _ => ?_⟩))))))
          refine QI (Qd (Qc (Qx rfl rfl rfl (by omega) (Qe rfl rfl (Qa fun _ => Qd ?_)))))
          exact ⟨k + 1, by omega, by omega, QQ (i := 62) (i' := 901) (F1 := [(2, .str (Qu s)), (4, .ptr 4 0 0), (36, .rs 1 (p.want.map civ)), (37, iv (p.want.length : Int)), (38, iv (((k + 1) : Nat) : Int)), (9, .sl 62 0 (k + 1))]) (H1 := [(4, .cells 35 3 [cPc x] true), (62, .cells 51 5 (((List.range (k + 1)).map (J2 p x s)).map cLf) true)]) (.cs (.cs (.cs (.cs (.cs (.cs (.nil))))))) (.keep (rfl) rfl (.keep (by rw [leaf_snoc hwk hak hbk]; rfl) rfl (.nil))) (fun i h => by cases h) rfl rfl (.cons rfl (.same _) (.cons rfl (.same _) (.cons rfl (.same _) (.cons rfl (.same _) (.cons rfl (.same _) (.cons rfl (.sl _ _) (.nil))))))) (.cs (.cs (.cs (.cs (.cs (.cs (.nil))))))) (.keep (rfl) rfl (.keep (rfl) rfl (.nil))) (fun i h => by cases h)⟩
        · replace h39 := of_decide_eq_false h39
          refine Q3 (QB (QB (QA (Qd (Qb (Qc (Qf 2 rfl (Qa fun _ => Qd ?_))))))))
          refine Ql ?_
          obtain rfl : k = p.want.length := by omega
          rw [show X9 p x s = (List.range p.want.length).map (J2 p x s) from by unfold X9; rw [if_pos ⟨hfine, of_decide_eq_false h33⟩]]
          exact Q5 rfl (QK (f := cLf) (xs := (List.range p.want.length).map (J2 p x s)) rfl rfl (by simp) (fun _ => rfl)) .nil
      · skip
        refine QM rfl rfl rfl (Qa fun _ => Qd (Qh rfl (fun _ => ?_) (fun h => by cases h)))
        refine Qb (Qc (Qe rfl rfl (Qa fun _ => Qd (Ql (Q1 ?_)))))
        rw [show X9 p x s = [] from by unfold X9; rw [if_neg (fun h => h.2 (of_decide_eq_true h33))]]
        exact Q5 rfl QW .nil
    · skip
      refine Qf 3 rfl (QE rfl rfl rfl rfl (fun h23 => ?_) (fun h23 => ?_))
      · skip
        refine Qf 6 rfl (Qa fun _ => Qd (Qb (Qb (Qc (Qf 4 rfl (rs_seq (r := decide (s = [])) rfl rfl rfl hs.1 (fun x hx => by cases hx) (by by_cases e : s = [] <;> simp [e]) ?_))))))
        cases h33 : decide (s = [])
        · skip
          refine QM rfl rfl rfl (Qa fun _ => Qd (Qh rfl (fun h => by cases h) (fun _ => ?_)))
          refine Qn (Qd (Qb ?_))
          have hfine : fineB (verdS p x) = true := by unfold fineB; rw [decide_eq_false h16, decide_eq_false h19, decide_eq_true h23]; rfl
          have hfit := fine_fit hfine
          obtain ⟨hl1, hl2, hl3, _, _⟩ := fit_len hfit
          refine Qc (Qe rfl rfl (Qa fun _ => Qd (Qb (Qb (Qc (Qf 2 rfl (Qq rfl rfl (Qe rfl rfl ?_))))))))
          refine Qa fun _ => Qd (Qm ?_)
          refine QC (α := Nat) (fun k => p.want.length - k) (fun k => [(2, .str (Qu s)), (4, .ptr 4 0 0), (36, .rs 1 (p.want.map civ)), (37, iv (p.want.length : Int)), (38, iv (((k) : Nat) : Int)), (9, .sl 901 0 (k))]) (fun k => [(4, .cells 35 3 [cPc x] true), (901, .cells 51 5 (((List.range (k)).map (J2 p x s)).map cLf) true)]) (fun k => k ≤ p.want.length) 0 (by omega)
            (Qj (.cs (.cs (.cs (.cs (.cs (.cons rfl (J7 rfl rfl) (.nil))))))) (.keep (rfl) rfl (.virt rfl (.nil))) (fun i h => by cases h)) ?_
          intro k hk
          refine Qb (Qc (QJ rfl rfl rfl (Qa fun _ => Qd (Qb (Qh rfl (fun h39 => ?_) (fun h39 => ?_))))))
          · replace h39 := of_decide_eq_true h39
            refine Qn (Qd (Qb (Qm (Qb (Qc (Qe rfl rfl ?_))))))
            obtain ⟨w, hwk, hwm⟩ := Qy (L := p.want) (k := k) (by omega)
            obtain ⟨a, hak, ham⟩ := Qy (L := x.sure) (k := k) (by omega)
            obtain ⟨b, hbk, hbm⟩ := Qy (L := x.touched) (k := k) (by omega)
            refine Qt (f := civ) (y := w) rfl rfl rfl (by omega) hwk (Qf 3 rfl (Qa fun _ => Qd (Q8 Xr (Qf 6 rfl (Qt (f := cB) (y := a) rfl rfl rfl (by omega) hak (Qf 4 rfl (Qt (f := cB) (y := b) rfl rfl rfl (by omega) hbk (Qf 3 rfl ?_))))))))
            refine Qi [] rfl rfl (vc61 (k : Int) ⟨by omega, by omega⟩) (.cons (Qg rfl) (.nil)) rfl (Qi [] rfl rfl (vc40 s (XK (k : Int)) hs ⟨vint_8 _, Nat.le_trans (XA _) (by decide)⟩) (.cons (Qg rfl) (.cons (Qg rfl) (.nil))) rfl (QU rfl rfl (Qv (l := (([⟨(k : Int), w, a, b, XH s (XK (k : Int))⟩] : List Lf)).flatMap cLf) (els := (([⟨(k : Int), w, a, b, XH s (XK (k : Int))⟩] : List Lf)).map cLf) (fl := true) rfl (by kernel_rfl) rfl rfl (by kernel_rfl) (by kernel_rfl) (QV (f := cLf) (xs := (List.range k).map (J2 p x s)) (y := ⟨(k : Int), w, a, b, XH s (XK (k : Int))⟩) (fl' := true) rfl rfl rfl rfl (by simp) rfl rfl rfl (by decide) rfl (by omega) (by omega) rfl (Qe rfl rfl (Qa ⟨by kernel_rfl, fun _ => ?_⟩))))))
            refine QI (Qd (Qc (Qx rfl rfl rfl (by omega) (Qe rfl rfl (Qa fun _ => Qd ?_)))))
            exact ⟨k + 1, by omega, by omega, QQ (i := 62) (i' := 901) (F1 := [(2, .str (Qu s)), (4, .ptr 4 0 0), (36, .rs 1 (p.want.map civ)), (37, iv (p.want.length : Int)), (38, iv (((k + 1) : Nat) : Int)), (9, .sl 62 0 (k + 1))]) (H1 := [(4, .cells 35 3 [cPc x] true), (62, .cells 51 5 (((List.range (k + 1)).map (J2 p x s)).map cLf) true)]) (.cs (.cs (.cs (.cs (.cs (.cs (.nil))))))) (.keep (rfl) rfl (.keep (by rw [leaf_snoc hwk hak hbk]; rfl) rfl (.nil))) (fun i h => by cases h) rfl rfl (.cons rfl (.same _) (.cons rfl (.same _) (.cons rfl (.same _) (.cons rfl (.same _) (.cons rfl (.same _) (.cons rfl (.sl _ _) (.nil))))))) (.cs (.cs (.cs (.cs (.cs (.cs (.nil))))))) (.keep (rfl) rfl (.keep (rfl) rfl (.nil))) (fun i h => by cases h)⟩
          · replace h39 := of_decide_eq_false h39
            refine Q3 (QB (QB (QA (Qd (Qb (Qc (Qf 2 rfl (Qa fun _ => Qd ?_))))))))
            refine Ql ?_
            obtain rfl : k = p.want.length := by omega
            rw [show X9 p x s = (List.range p.want.length).map (J2 p x s) from by unfold X9; rw [if_pos ⟨hfine, of_decide_eq_false h33⟩]]
            exact Q5 rfl (QK (f := cLf) (xs := (List.range p.want.length).map (J2 p x s)) rfl rfl (by simp) (fun _ => rfl)) .nil
        · skip
          refine QM rfl rfl rfl (Qa fun _ => Qd (Qh rfl (fun _ => ?_) (fun h => by cases h)))
          refine Qb (Qc (Qe rfl rfl (Qa fun _ => Qd (Ql (Q1 ?_)))))
          rw [show X9 p x s = [] from by unfold X9; rw [if_neg (fun h => h.2 (of_decide_eq_true h33))]]
          exact Q5 rfl QW .nil
      · skip
        refine Qf 3 rfl (QE rfl rfl rfl rfl (fun h27 => ?_) (fun h27 => ?_))
        · skip
          refine Qf 2 rfl (Qa fun _ => Qd (Qb (Qb (Qc (Qf 4 rfl (rs_seq (r := decide (s = [])) rfl rfl rfl hs.1 (fun x hx => by cases hx) (by by_cases e : s = [] <;> simp [e]) ?_))))))
          cases h33 : decide (s = [])
          · skip
            refine QM rfl rfl rfl (Qa fun _ => Qd (Qh rfl (fun h => by cases h) (fun _ => ?_)))
            refine Qn (Qd (Qb ?_))
            have hfine : fineB (verdS p x) = true := by unfold fineB; rw [decide_eq_false h16, decide_eq_false h19, decide_eq_false h23, decide_eq_true h27]; rfl
            have hfit := fine_fit hfine
            obtain ⟨hl1, hl2, hl3, _, _⟩ := fit_len hfit
            refine Qc (Qe rfl rfl (Qa fun _ => Qd (Qb (Qb (Qc (Qf 2 rfl (Qq rfl rfl (Qe rfl rfl ?_))))))))
            refine Qa fun _ => Qd (Qm ?_)
            refine QC (α := Nat) (fun k => p.want.length - k) (fun k => [(2, .str (Qu s)), (4, .ptr 4 0 0), (36, .rs 1 (p.want.map civ)), (37, iv (p.want.length : Int)), (38, iv (((k) : Nat) : Int)), (9, .sl 901 0 (k))]) (fun k => [(4, .cells 35 3 [cPc x] true), (901, .cells 51 5 (((List.range (k)).map (J2 p x s)).map cLf) true)]) (fun k => k ≤ p.want.length) 0 (by omega)
              (Qj (.cs (.cs (.cs (.cs (.cs (.cons rfl (J7 rfl rfl) (.nil))))))) (.keep (rfl) rfl (.virt rfl (.nil))) (fun i h => by cases h)) ?_
            intro k hk
            refine Qb (Qc (QJ rfl rfl rfl (Qa fun _ => Qd (Qb (Qh rfl (fun h39 => ?_) (fun h39 => ?_))))))
            · replace h39 := of_decide_eq_true h39
              refine Qn (Qd (Qb (Qm (Qb (Qc (Qe rfl rfl ?_))))))
              obtain ⟨w, hwk, hwm⟩ := Qy (L := p.want) (k := k) (by omega)
              obtain ⟨a, hak, ham⟩ := Qy (L := x.sure) (k := k) (by omega)
              obtain ⟨b, hbk, hbm⟩ := Qy (L := x.touched) (k := k) (by omega)
              refine Qt (f := civ) (y := w) rfl rfl rfl (by omega) hwk (Qf 3 rfl (Qa fun _ => Qd (Q8 Xr (Qf 6 rfl (Qt (f := cB) (y := a) rfl rfl rfl (by omega) hak (Qf 4 rfl (Qt (f := cB) (y := b) rfl rfl rfl (by omega) hbk (Qf 3 rfl ?_))))))))
              refine Qi [] rfl rfl (vc61 (k : Int) ⟨by omega, by omega⟩) (.cons (Qg rfl) (.nil)) rfl (Qi [] rfl rfl (vc40 s (XK (k : Int)) hs ⟨vint_8 _, Nat.le_trans (XA _) (by decide)⟩) (.cons (Qg rfl) (.cons (Qg rfl) (.nil))) rfl (QU rfl rfl (Qv (l := (([⟨(k : Int), w, a, b, XH s (XK (k : Int))⟩] : List Lf)).flatMap cLf) (els := (([⟨(k : Int), w, a, b, XH s (XK (k : Int))⟩] : List Lf)).map cLf) (fl := true) rfl (by kernel_rfl) rfl rfl (by kernel_rfl) (by kernel_rfl) (QV (f := cLf) (xs := (List.range k).map (J2 p x s)) (y := ⟨(k : Int), w, a, b, XH s (XK (k : Int))⟩) (fl' := true) rfl rfl rfl rfl (by simp) rfl rfl rfl (by decide) rfl (by omega) (by omega) rfl (Qe rfl rfl (Qa ⟨by kernel_rfl, fun _ => ?_⟩))))))
              refine QI (Qd (Qc (Qx rfl rfl rfl (by omega) (Qe rfl rfl (Qa fun _ => Qd ?_)))))
              exact ⟨k + 1, by omega, by omega, QQ (i := 62) (i' := 901) (F1 := [(2, .str (Qu s)), (4, .ptr 4 0 0), (36, .rs 1 (p.want.map civ)), (37, iv (p.want.length : Int)), (38, iv (((k + 1) : Nat) : Int)), (9, .sl 62 0 (k + 1))]) (H1 := [(4, .cells 35 3 [cPc x] true), (62, .cells 51 5 (((List.range (k + 1)).map (J2 p x s)).map cLf) true)]) (.cs (.cs (.cs (.cs (.cs (.cs (.nil))))))) (.keep (rfl) rfl (.keep (by rw [leaf_snoc hwk hak hbk]; rfl) rfl (.nil))) (fun i h => by cases h) rfl rfl (.cons rfl (.same _) (.cons rfl (.same _) (.cons rfl (.same _) (.cons rfl (.same _) (.cons rfl (.same _) (.cons rfl (.sl _ _) (.nil))))))) (.cs (.cs (.cs (.cs (.cs (.cs (.nil))))))) (.keep (rfl) rfl (.keep (rfl) rfl (.nil))) (fun i h => by cases h)⟩
            · replace h39 := of_decide_eq_false h39
              refine Q3 (QB (QB (QA (Qd (Qb (Qc (Qf 2 rfl (Qa fun _ => Qd ?_))))))))
              refine Ql ?_
              obtain rfl : k = p.want.length := by omega
              rw [show X9 p x s = (List.range p.want.length).map (J2 p x s) from by unfold X9; rw [if_pos ⟨hfine, of_decide_eq_false h33⟩]]
              exact Q5 rfl (QK (f := cLf) (xs := (List.range p.want.length).map (J2 p x s)) rfl rfl (by simp) (fun _ => rfl)) .nil
          · skip
            refine QM rfl rfl rfl (Qa fun _ => Qd (Qh rfl (fun _ => ?_) (fun h => by cases h)))
            refine Qb (Qc (Qe rfl rfl (Qa fun _ => Qd (Ql (Q1 ?_)))))
            rw [show X9 p x s = [] from by unfold X9; rw [if_neg (fun h => h.2 (of_decide_eq_true h33))]]
            exact Q5 rfl QW .nil
        · skip
          refine Qf 2 rfl (Qa fun _ => Qd (Qb (Qb (Qc (Qf 6 rfl (Qa fun _ => Qd (Qh rfl (fun _ => ?_) (fun h => by cases h))))))))
          refine Qb (Qc (Qe rfl rfl (Qa fun _ => Qd (Ql (Q1 ?_)))))
          rw [show X9 p x s = [] from by unfold X9; rw [if_neg (fun h => by have h1 := h.1; unfold fineB at h1; rw [decide_eq_false h16, decide_eq_false h19, decide_eq_false h23, decide_eq_false h27] at h1; cases h1)]]
          exact Q5 rfl QW .nil
end Go.Proofs.YthfhaoogcpfboaaGreat

/-! Walks: VT. -/
namespace Go.Proofs.YthfhaoogcpfboaaGreat
open Go.RowKit
set_option maxRecDepth 100000
set_option linter.unusedVariables false
def exBox (k : Nat) : List Pl := boxS ⟨k, 0, 0⟩ ⟨k + 1, 1, 1⟩
def exBs (k : Nat) : List (List Pl) := (List.range k).map exBox
def exWs (k : Nat) : List Int := (List.range k).map fun (i : Nat) => (i : Int) + 1
theorem exBs_succ (k : Nat) : exBs (k + 1) = exBs k ++ [exBox k] := by unfold exBs; rw [List.range_succ, List.map_append]; rfl
theorem exWs_succ (k : Nat) : exWs (k + 1) = exWs k ++ [(k : Int) + 1] := by unfold exWs; rw [List.range_succ, List.map_append]; rfl
theorem exBs_len (k : Nat) : (exBs k).length = k := by simp [exBs]
theorem exWs_len (k : Nat) : (exWs k).length = k := by simp [exWs]
def exA : Pa := ⟨[], exBs 3, exWs 3⟩
def exX : Pc := ⟨[false, true, false], [false, true, false], []⟩
theorem exA_ok : PaOK exA := ⟨by decide, by decide, by decide⟩
theorem exX_ok : PcOK exX := ⟨by decide, by decide⟩
/-- The leaves of the chapter's examples. -/
def exL : List Lf := X9 exA exX [115]
def ixF : Nat → List Lf → Bool
  | _, [] => true
  | k, x :: l => decide (x.ix = (k : Int)) && ixF (k + 1) l
theorem ixF_at {l : List Lf} {k : Nat} {x : Lf} (h : l[k]? = some x) : ixF k (l.drop k) = (decide (x.ix = (k : Int)) && ixF (k + 1) (l.drop (k + 1))) := by rw [drop_at h]; rfl
theorem ixF_ix : ∀ {l : List Lf} {k : Nat}, ixF k l = true → ∀ (i : Nat) (x : Lf), l[i]? = some x → x.ix = ((k + i : Nat) : Int)
  | [], k, _, i, x, h => by simp at h
  | y :: l, k, hl, i, x, h => by
    simp only [ixF, Bool.and_eq_true, decide_eq_true_eq] at hl
    cases i with
    | zero => simp at h; subst h; exact hl.1
    | succ i => rw [ixF_ix hl.2 i x (by simpa using h)]; omega
theorem incF_len {z : Int} : ∀ {l : List Int} {p : Int}, incF z p l = true → (l.length : Int) = 0 ∨ (l.length : Int) + p < z
  | [], _, _ => .inl rfl
  | x :: l, p, h => by
    simp only [incF, Bool.and_eq_true, decide_eq_true_eq] at h
    have := incF_len h.2
    rw [List.length_cons]; omega
/-- The error of Show, and what it returns. -/
def XC (ls : List Lf) (w : List Int) : Int := if ls.length = 0 ∨ ls.length > 16 then 2 else if ixF 0 ls = false then 4 else if w.any (outP ls.length) = true then 5 else if incF (ls.length : Int) (-1) w = false then 7 else 0
def showG (ls : List Lf) (w : List Int) : Shn := if XC ls w = 0 then showS ls w else ⟨0, [], []⟩
theorem shE_2 {ls : List Lf} {w : List Int} (h : ls.length = 0 ∨ ls.length > 16) : XC ls w = 2 := if_pos h
theorem shE_4 {ls : List Lf} {w : List Int} (h : ¬ (ls.length = 0 ∨ ls.length > 16)) (h2 : ixF 0 ls = false) : XC ls w = 4 := by unfold XC; rw [if_neg h, if_pos h2]
theorem shE_5 {ls : List Lf} {w : List Int} (h : ¬ (ls.length = 0 ∨ ls.length > 16)) (h2 : ixF 0 ls = true) (h3 : w.any (outP ls.length) = true) : XC ls w = 5 := by unfold XC; rw [if_neg h, if_neg (by rw [h2]; decide), if_pos h3]
theorem shE_7 {ls : List Lf} {w : List Int} (h : ¬ (ls.length = 0 ∨ ls.length > 16)) (h2 : ixF 0 ls = true) (h3 : w.any (outP ls.length) = false) (h4 : incF (ls.length : Int) (-1) w = false) : XC ls w = 7 := by unfold XC; rw [if_neg h, if_neg (by rw [h2]; decide), if_neg (by rw [h3]; decide), if_pos h4]
theorem shE_0 {ls : List Lf} {w : List Int} (h : ¬ (ls.length = 0 ∨ ls.length > 16)) (h2 : ixF 0 ls = true) (h3 : w.any (outP ls.length) = false) (h4 : incF (ls.length : Int) (-1) w = true) : XC ls w = 0 := by unfold XC; rw [if_neg h, if_neg (by rw [h2]; decide), if_neg (by rw [h3]; decide), if_neg (by rw [h4]; decide)]
theorem shG_e {ls : List Lf} {w : List Int} {e : Int} (h : XC ls w = e) (h0 : e ≠ 0) : showG ls w = ⟨0, [], []⟩ := by unfold showG; rw [if_neg (by rw [h]; exact h0)]
theorem shG_0 {ls : List Lf} {w : List Int} (h : XC ls w = 0) : showG ls w = showS ls w := if_pos h
theorem out_bd {n : Nat} {w : List Int} (h : w.any (outP n) = false) : ∀ x ∈ w, 0 ≤ x ∧ x < (n : Int) := fun x hx => by
  have := List.any_eq_false.1 h x hx
  simp only [outP, Bool.or_eq_true, decide_eq_true_eq] at this
  omega
theorem showG_8 {ls : List Lf} {w : List Int} : ∀ d ∈ (showG ls w).hid, B8 d ∧ d.length ≤ LIM := fun d hd => by
  unfold showG at hd
  split at hd
  · obtain ⟨s, _, rfl⟩ := List.mem_map.1 hd
    exact (ofK_ok ls).tree _ _
  · cases hd
def shB (ls : List Lf) (w : List Int) (want : List (List Int)) : Bool := decide (XC ls w = 0) && (decide ((showG ls w).size = ls.length) && (decide ((showG ls w).hid = want) && decide (((showG ls w).leaves.length : Int) = w.length)))
def mcv39 : MC := (.seq (.reg [oN 0 (.mv (.c .nils)) []] false) (.seq (.reg [oN 1 (.alloc 31 3 [(.str (Qu [])), .nils, .nils]) []] false) (.seq (.seq (.reg [oN 2 (.mv (.c (.int .i64 0))) []] false) (.block 0 (.loop (.seq (.seq (.reg [oM 3 2 [], oN 4 (.bin .lss (.t 3) (.c (.int .i64 3))) [0]] false) (.cond (.t 4) .skip (.exit 0))) (.seq (.block 1 (.seq (.reg [oA 7 1 1 [], oD 8 1 7 [0], oM 9 2 [], oN 10 (.build [(.int .i64 0), (.int .i64 0), (.int .i64 0)] [(0, (1, (.t 9)))]) [2], oM 11 2 [], oN 12 (.bin .add (.t 11) (.c (.int .i64 1))) [4], oN 13 (.build [(.int .i64 0), (.int .i64 0), (.int .i64 0)] [(0, (1, (.t 12))), (1, (1, (.c (.int .i64 1)))), (2, (1, (.c (.int .i64 1))))]) [5], oN 14 (.call 47 [(.t 10), (.t 13)]) [3, 6], oN 15 (.bslice 85 1 [.nils] 1 [(0, (.t 14))]) [7], oN 16 (.app 85 1 24 [.nils] (.t 8) (.t 15)) [1, 8, 7], oA 17 1 1 [0, 1, 2, 3, 4, 5, 6, 7, 8, 9], ⟨none, (.st 1 (.t 17) (.t 16)), none, [10, 9, 9, 0, 1, 2, 3, 4, 5, 6, 7, 8, 9]⟩] true) (.reg [oA 18 2 1 [], oD 19 1 18 [0], oM 20 2 [], oN 21 (.bin .add (.t 20) (.c (.int .i64 1))) [2], oN 22 (.bslice 3 1 [(.int .i64 0)] 1 [(0, (.t 21))]) [3], oN 23 (.app 3 1 8 [(.int .i64 0)] (.t 19) (.t 22)) [1, 4], oA 24 2 1 [0, 1, 2, 3, 4, 5], ⟨none, (.st 1 (.t 24) (.t 23)), none, [6, 5, 5, 0, 1, 2, 3, 4, 5]⟩] false))) (.reg [oM 5 2 [], oN 6 (.bin .add (.t 5) (.c (.int .i64 1))) [0], oM 2 6 [1, 0, 1]] false)))))) (.seq (.reg [oN 25 (.ld true 3 (.t 1)) [], oN 26 (.bslice 4 1 [(.bool false)] 3 [(0, (.c (.bool false))), (1, (.c (.bool true))), (2, (.c (.bool false)))]) [], oN 27 (.bslice 4 1 [(.bool false)] 3 [(0, (.c (.bool false))), (1, (.c (.bool true))), (2, (.c (.bool false)))]) [], oN 28 (.build [.nils, .nils, .nils] [(0, (1, (.t 26))), (1, (1, (.t 27)))]) [1, 2], oN 29 (.call 16 [(.t 25), (.t 28), (.c (.str (Qu [115])))]) [0, 3], oM 0 29 [4, 4, 0, 1, 2, 3, 4]] false) .ret))))
theorem mcOkv39 : (match Tryz.f39.body with | some c => Q2 Tryz.prog 30 c | none => none) = some mcv39 := by kernel_rfl
set_option maxHeartbeats 1000000 in
theorem vc39  : FC Tryz.prog 39 [] [] (.rs 5 (exL.map cLf)) [] true := by
  refine Qs (nt := 30) Tryz.func39 rfl rfl mcOkv39 (nL rfl) ?_
  delta mcv39
  refine Qb (Qc (Qe rfl rfl (Qa fun _ => Qd (Qb (Qc (QF rfl rfl rfl (Qa fun _ => Qd ?_)))))))
  refine Qb (Qb (Qc (Qe rfl rfl (Qa fun _ => Qd (Qm (Xm (F0 := [(1, .ptr 1 0 0), (2, iv (((0) : Nat) : Int))]) (H0 := [(1, .cells 31 3 [[.str (Qu []), .sl 905 0 (0), .sl 906 0 (0)]] false), (905, .cells 85 1 ((exBs (0)).map cR) true), (906, .cells 3 1 ((exWs (0)).map civ) true)]) (Weak.trans (F1 := [(1, .ptr 1 0 0), (2, iv (((0) : Nat) : Int))]) (H1 := [(1, .cells 31 3 [[.str (Qu []), .nils, .nils]] true)]) (Qj (.cs (.cs (.nil))) (.keep (rfl) rfl (.nil)) fun i h => by cases h) (Weak.trans (F1 := [(1, .ptr 1 0 0), (2, iv (((0) : Nat) : Int))]) (H1 := [(1, .cells 31 3 [[.str (Qu []), .sl 905 0 0, .nils]] false), (905, .cells 85 1 ((exBs (0)).map cR) true)]) (Weak.trans (F1 := [(1, .ptr 1 0 0), (2, iv (((0) : Nat) : Int))]) (XX (i := 905) (k := 1) (e2 := 85) (z2 := 1) (fl2 := true) rfl rfl (.next .here)) (Qj (.cs (.cs (.nil))) (.keep (rfl) rfl (.keep (rfl) rfl (.nil))) fun i h => by cases h)) (Weak.trans (F1 := [(1, .ptr 1 0 0), (2, iv (((0) : Nat) : Int))]) (XX (i := 906) (k := 1) (e2 := 3) (z2 := 1) (fl2 := true) rfl rfl (.next (.next .here))) (Qj (.cs (.cs (.nil))) (.keep (rfl) rfl (.keep (rfl) rfl (.keep (rfl) rfl (.nil)))) fun i h => by cases h)))) ?_))))))
  refine QC (α := Nat) (fun k => 3 - k) (fun k => [(1, .ptr 1 0 0), (2, iv (((k) : Nat) : Int))]) (fun k => [(1, .cells 31 3 [[.str (Qu []), .sl 905 0 (k), .sl 906 0 (k)]] false), (905, .cells 85 1 ((exBs (k)).map cR) true), (906, .cells 3 1 ((exWs (k)).map civ) true)]) (fun k => k ≤ 3) 0 (by omega)
    (Qj (.cs (.cs (.nil))) (.keep (rfl) rfl (.keep (rfl) rfl (.keep (rfl) rfl (.nil)))) (fun i h => by cases h)) ?_
  intro k hk
  refine Qb (Qb ?_)
  
  refine Qc (Qf 2 rfl (Qa fun _ => Qd (Qh rfl (fun h4 => ?_) (fun h4 => ?_))))
  · replace h4 := of_decide_eq_true h4
    refine Qn (Qd (Qb (Qm (Qb (Q8 Xr (Qf 5 rfl (Qx rfl rfl rfl (by omega) (QU rfl rfl (Qi [] rfl rfl (vc47 ⟨k, 0, 0⟩ ⟨k + 1, 1, 1⟩ ⟨by dsimp only; omega, by dsimp only; omega, by dsimp only; omega⟩) (.cons (Qg rfl) (.cons (Qg rfl) (.nil))) rfl ?_)))))))))
    refine Qv (l := (([exBox k] : List (List Pl))).flatMap cR) (els := (([exBox k] : List (List Pl))).map cR) (fl := true) rfl (by kernel_rfl) rfl rfl (by kernel_rfl) (by kernel_rfl) (QV (f := cR) (xs := exBs k) (y := exBox k) (fl' := true) rfl rfl rfl rfl (exBs_len k) rfl rfl rfl (by decide) rfl (by omega) (by omega) rfl (Q9 rfl rfl (Q0 rfl rfl rfl rfl rfl rfl rfl (nL rfl) rfl rfl (Qa ⟨by kernel_rfl, fun _ => ?_⟩))))
    refine Qd (Qc (Qf 3 rfl (Qx rfl rfl rfl (by omega) (Qv (l := (([(k : Int) + 1] : List Int)).flatMap civ) (els := (([(k : Int) + 1] : List Int)).map civ) (fl := true) rfl (by kernel_rfl) rfl rfl (by kernel_rfl) (by kernel_rfl) (QV (f := civ) (xs := exWs k) (y := (k : Int) + 1) (fl' := true) rfl rfl rfl rfl (exWs_len k) rfl rfl rfl (by decide) rfl (by omega) (by omega) rfl (Q9 rfl rfl (Q0 rfl rfl rfl rfl rfl rfl rfl (nL rfl) rfl rfl (Qa fun _ => QI ?_))))))))
    refine Qd (Qc (Qe rfl rfl (Qx rfl rfl rfl (by omega) (Qe rfl rfl (Qa fun _ => Qd ?_)))))
    exact ⟨k + 1, by omega, by omega, Weak.trans (F1 := [(1, .ptr 1 0 0), (2, iv (((k + 1) : Nat) : Int))]) (H1 := [(1, .cells 31 3 [[.str (Qu []), .sl 905 0 (k + 1), .sl 23 0 (k + 1)]] false), (905, .cells 85 1 ((exBs (k + 1)).map cR) true), (23, .cells 3 1 ((exWs (k + 1)).map civ) true)]) (show Weak _ _ _ _ [(1, .ptr 1 0 0), (2, iv (((k + 1) : Nat) : Int))] [(1, .cells 31 3 [[.str (Qu []), .sl 905 0 (k + 1), .sl 23 0 (k + 1)]] false), (905, .cells 85 1 ((exBs (k + 1)).map cR) true), (23, .cells 3 1 ((exWs (k + 1)).map civ) true)] from Weak.trans (F1 := [(1, .ptr 1 0 0), (2, iv (((k + 1) : Nat) : Int))]) (H1 := [(1, .cells 31 3 [[.str (Qu []), .sl 16 0 (k + 1), .sl 23 0 (k + 1)]] false), (16, .cells 85 1 ((exBs (k + 1)).map cR) true), (23, .cells 3 1 ((exWs (k + 1)).map civ) true)]) (Qj (.cs (.cs (.nil))) (.keep (rfl) rfl (.keep (by rw [exBs_succ]; rfl) rfl (.keep (by rw [exWs_succ]; rfl) rfl (.nil)))) fun i h => by cases h) (Weak.trans (F1 := [(1, .ptr 1 0 0), (2, iv (((k + 1) : Nat) : Int))]) (XI (i := 16) (i' := 905) (k := 1) rfl rfl (.cons rfl (.same _) (.cons rfl (.same _) (.nil))) (by decide) rfl (.cons (.same _) (.cons (.sl _ _) (RenL.refl _ _ _)))) (Qj (.cs (.cs (.nil))) (.keep (rfl) rfl (.keep (rfl) rfl (.keep (rfl) rfl (.nil)))) fun i h => by cases h))) (show Weak _ _ _ _ [(1, .ptr 1 0 0), (2, iv (((k + 1) : Nat) : Int))] [(1, .cells 31 3 [[.str (Qu []), .sl 905 0 (k + 1), .sl 906 0 (k + 1)]] false), (905, .cells 85 1 ((exBs (k + 1)).map cR) true), (906, .cells 3 1 ((exWs (k + 1)).map civ) true)] from Weak.trans (F1 := [(1, .ptr 1 0 0), (2, iv (((k + 1) : Nat) : Int))]) (H1 := [(1, .cells 31 3 [[.str (Qu []), .sl 905 0 (k + 1), .sl 23 0 (k + 1)]] false), (905, .cells 85 1 ((exBs (k + 1)).map cR) true), (23, .cells 3 1 ((exWs (k + 1)).map civ) true)]) (Qj (.cs (.cs (.nil))) (.keep (rfl) rfl (.keep (rfl) rfl (.keep (rfl) rfl (.nil)))) fun i h => by cases h) (Weak.trans (F1 := [(1, .ptr 1 0 0), (2, iv (((k + 1) : Nat) : Int))]) (XI (i := 23) (i' := 906) (k := 1) rfl rfl (.cons rfl (.same _) (.cons rfl (.same _) (.nil))) (by decide) rfl (.cons (.same _) (.cons (.same _) (.cons (.sl _ _) (RenL.refl _ _ _))))) (Qj (.cs (.cs (.nil))) (.keep (rfl) rfl (.keep (rfl) rfl (.keep (rfl) rfl (.nil)))) fun i h => by cases h)))⟩
  · replace h4 := of_decide_eq_false h4
    refine Q3 (QB (QB (QA (Qd (Qb ?_)))))
    obtain rfl : k = 3 := by omega
    refine Qc (Qo rfl rfl rfl rfl (nL rfl) rfl (Qv (l := (([false, true, false] : List Bool)).flatMap cB) (els := (([false, true, false] : List Bool)).map cB) (fl := true) rfl (by kernel_rfl) rfl rfl (by kernel_rfl) (by kernel_rfl) (Qv (l := (([false, true, false] : List Bool)).flatMap cB) (els := (([false, true, false] : List Bool)).map cB) (fl := true) rfl (by kernel_rfl) rfl rfl (by kernel_rfl) (by kernel_rfl) (QU rfl rfl (Qi [905, 906, 26, 27] rfl rfl (vc16 exA exA_ok exX exX_ok [115] ⟨b8_c, by decide⟩) (.cons (hv_agg (.cons (Qg rfl) (.cons (Xk (f := cR) (xs := exBs 3) (by simp) rfl rfl) (.cons (Xk (f := civ) (xs := exWs 3) (by simp) rfl rfl) .nil)))) (.cons (hv_agg (.cons (Xk (f := cB) (xs := ([false, true, false] : List Bool)) (by simp) rfl rfl) (.cons (Xk (f := cB) (xs := ([false, true, false] : List Bool)) (by simp) rfl rfl) (.cons hv_nils .nil)))) (.cons (Qg rfl) (.nil)))) rfl (Qe rfl rfl (Qa fun _ => Qd (Ql ?_))))))))
    exact Qk rfl rfl rfl (.inl rfl)
set_option maxHeartbeats 2000000 in
theorem vc22 (ls : List Lf) (hl : ls.length ≤ 64) (hok : ∀ x ∈ ls, x.OK) (w : List Int) (hwl : w.length ≤ 64) : FC Tryz.prog 22 [.rs 5 (ls.map cLf), .rs 1 (w.map civ)] [] (.tup [.agg (cSh (showG ls w)), iv (XC ls w)]) [] false := by
  refine Qs (nt := 90) Tryz.func22 rfl rfl mcOkv22 (nL rfl) ?_
  delta mcv22
  refine Qb (Qc (Qf 2 rfl (Qa fun _ => Qd (Qb (Qc (Qe rfl rfl (Qq rfl rfl (QF rfl rfl rfl ?_))))))))
  refine Q0 rfl rfl rfl rfl rfl rfl rfl (nL rfl) rfl rfl (Qa fun _ => Qd (Qb (Qb (Qc (QY rfl rfl rfl rfl rfl (QE rfl rfl rfl rfl (fun h17 => ?_) (fun h17 => ?_)))))))
  · skip
    refine Qf 4 rfl (Qa fun _ => Qd (Qh rfl (fun _ => ?_) (fun h => by cases h)))
    refine Qb (Qc (QU rfl rfl (Q0 rfl rfl rfl rfl rfl rfl rfl (nL rfl) rfl rfl (Qe rfl rfl (Qa fun _ => Qd (Ql (Q1 ?_)))))))
    have he : XC ls w = 2 := shE_2 (by omega)
    rw [shG_e he (by decide), he]
    exact Q5 rfl (XJ (.cons (Xg (.cons (Q6 rfl (.inr rfl)) (.cons QW (.cons QW .nil)))) (.cons (Q6 rfl (.inr rfl)) .nil))) .nil
  · skip
    refine Qf 2 rfl (QE rfl rfl rfl rfl (fun h20 => ?_) (fun h20 => ?_))
    · skip
      refine QM rfl rfl rfl (Qa fun _ => Qd (Qh rfl (fun _ => ?_) (fun h => by cases h)))
      refine Qb (Qc (QU rfl rfl (Q0 rfl rfl rfl rfl rfl rfl rfl (nL rfl) rfl rfl (Qe rfl rfl (Qa fun _ => Qd (Ql (Q1 ?_)))))))
      have he : XC ls w = 2 := shE_2 (by omega)
      rw [shG_e he (by decide), he]
      exact Q5 rfl (XJ (.cons (Xg (.cons (Q6 rfl (.inr rfl)) (.cons QW (.cons QW .nil)))) (.cons (Q6 rfl (.inr rfl)) .nil))) .nil
    · skip
      refine QM rfl rfl rfl (Qa fun _ => Qd (Qh rfl (fun h => by cases h) (fun _ => ?_)))
      refine Qn (Qd (Qb (Qb (Qc (Qe rfl rfl (Qq rfl rfl (Qe rfl rfl (Qa fun _ => Qd ?_))))))))
      refine Qm ?_
      refine QC (α := Nat) (fun k => ls.length - k) (fun k => [(0, .rs 5 (ls.map cLf)), (1, .rs 1 (w.map civ)), (4, .ptr 4 0 0), (6, .ptr 6 0 0), (23, .rs 5 (ls.map cLf)), (24, iv (ls.length : Int)), (25, iv (((k) : Nat) : Int))]) (fun k => [(4, .cells 55 3 [[iv 0, .nils, .nils]] true), (6, .cells 3 1 [[iv (ls.length : Int)]] true)]) (fun k => k ≤ ls.length ∧ ixF k (ls.drop k) = ixF 0 ls) 0 (⟨by omega, rfl⟩)
        (Qj (.cs (.cs (.cs (.cs (.cs (.cs (.cs (.nil)))))))) (.keep (rfl) rfl (.keep (rfl) rfl (.nil))) (fun i h => by cases h)) ?_
      rintro k ⟨hk, hinv⟩
      refine Qb (Qc (QJ rfl rfl rfl (Qa fun _ => Qd (Qb (Qh rfl (fun h26 => ?_) (fun h26 => ?_))))))
      · replace h26 := of_decide_eq_true h26
        refine Qn (Qd (Qb (Qm (Qb (Qc (Qe rfl rfl ?_))))))
        obtain ⟨x, hxk, hxm⟩ := Qy (L := ls) (k := k) (by omega)
        refine Qt (f := cLf) (y := x) rfl rfl rfl (by omega) hxk (QR (cs := cLf x) rfl rfl (nL rfl) rfl (Qf 2 rfl (Q0 rfl rfl rfl rfl rfl rfl rfl (nL rfl) rfl rfl (Qa fun _ => Qd (Qb (Qc (Qf 3 rfl (JD rfl rfl rfl ?_))))))))
        refine Qa fun _ => Qd (Qh rfl (fun h33 => ?_) (fun h33 => ?_))
        · replace h33 := of_decide_eq_true h33
          refine Qb (Qc (QU rfl rfl (Q0 rfl rfl rfl rfl rfl rfl rfl (nL rfl) rfl rfl (Qe rfl rfl (Qa fun _ => Qd (Ql (QL (Q1 ?_))))))))
          refine Q1 (QL (Q1 ?_))
          have he : XC ls w = 4 := shE_4 (by omega) (by rw [← hinv, ixF_at hxk, decide_eq_false h33]; rfl)
          rw [shG_e he (by decide), he]
          exact Q5 rfl (XJ (.cons (Xg (.cons (Q6 rfl (.inr rfl)) (.cons QW (.cons QW .nil)))) (.cons (Q6 rfl (.inr rfl)) .nil))) .nil
        · replace h33 := of_decide_eq_false h33
          refine Qn (QI (Qd (Qc (Qx rfl rfl rfl (by omega) (Qe rfl rfl (Qa fun _ => Qd ?_))))))
          rw [ixF_at hxk, decide_eq_true (Decidable.byContradiction h33), Bool.true_and] at hinv
          exact ⟨k + 1, ⟨by omega, hinv⟩, by omega, Qj (.cs (.cs (.cs (.cs (.cs (.cs (.cs (.nil)))))))) (.keep (rfl) rfl (.keep (rfl) rfl (.nil))) (fun i h => by cases h)⟩
      · replace h26 := of_decide_eq_false h26
        refine Q3 (QB (QB (QA (Qd (Qb (Qb ?_))))))
        have hix : ixF 0 ls = true := by rw [← hinv, List.drop_eq_nil_of_le (by omega)]; rfl
        refine Xm (F0 := [(0, .rs 5 (ls.map cLf)), (1, .rs 1 (w.map civ)), (4, .ptr 4 0 0), (6, .rp [iv (ls.length : Int)])]) (H0 := [(4, .cells 55 3 [[iv 0, .nils, .nils]] true)]) (Qj (.cs (.cs (.cs (.cons rfl (XS rfl rfl (.inl rfl)) (.nil))))) (.keep (rfl) rfl (.nil)) fun i h => by cases h) (Qc (Qf 2 rfl (Qi [] rfl rfl (vcC_out ls.length w (by omega)) (.cons (Qg rfl) (.cons (Qg rfl) (.nil))) rfl ?_)))
        cases h38 : w.any (outP ls.length)
        · skip
          refine Qa fun _ => Qd (Qh rfl (fun h => by cases h) (fun _ => ?_))
          refine Qn (Qd (Qb (Qc (Qf 3 rfl (Q0 rfl rfl rfl rfl rfl rfl rfl (nL rfl) rfl rfl (Qa fun _ => Qd (Qb (Qb ?_))))))))
          have hbd := out_bd h38
          refine Xm (F0 := [(0, .rs 5 (ls.map cLf)), (1, .rs 1 (w.map civ)), (4, .ptr 4 0 0), (6, .rp [iv (ls.length : Int)]), (9, .ptr 9 0 0)]) (H0 := [(4, .cells 55 3 [[iv 0, .nils, .nils]] true), (9, .cells 55 3 [[iv (ls.length : Int), .sl 905 0 (0), .sl 906 0 (0)]] false), (905, .cells 51 5 (((w.take (0)).map (Xt ls)).map cLf) true), (906, .cells 9 1 ((((Xc ls.length w).take (0)).map (Xb ls)).map cS) true)]) (Weak.trans (F1 := [(0, .rs 5 (ls.map cLf)), (1, .rs 1 (w.map civ)), (4, .ptr 4 0 0), (6, .rp [iv (ls.length : Int)]), (9, .ptr 9 0 0)]) (H1 := [(4, .cells 55 3 [[iv 0, .nils, .nils]] true), (9, .cells 55 3 [[iv (ls.length : Int), .nils, .nils]] true)]) (Qj (.cs (.cs (.cs (.cs (.cs (.nil)))))) (.keep (rfl) rfl (.keep (rfl) rfl (.nil))) fun i h => by cases h) (Weak.trans (F1 := [(0, .rs 5 (ls.map cLf)), (1, .rs 1 (w.map civ)), (4, .ptr 4 0 0), (6, .rp [iv (ls.length : Int)]), (9, .ptr 9 0 0)]) (H1 := [(4, .cells 55 3 [[iv 0, .nils, .nils]] true), (9, .cells 55 3 [[iv (ls.length : Int), .sl 905 0 0, .nils]] false), (905, .cells 51 5 (((w.take (0)).map (Xt ls)).map cLf) true)]) (Weak.trans (F1 := [(0, .rs 5 (ls.map cLf)), (1, .rs 1 (w.map civ)), (4, .ptr 4 0 0), (6, .rp [iv (ls.length : Int)]), (9, .ptr 9 0 0)]) (XX (i := 905) (k := 9) (e2 := 51) (z2 := 5) (fl2 := true) rfl rfl (.next .here)) (Qj (.cs (.cs (.cs (.cs (.cs (.nil)))))) (.keep (rfl) rfl (.keep (rfl) rfl (.keep (rfl) rfl (.nil)))) fun i h => by cases h)) (Weak.trans (F1 := [(0, .rs 5 (ls.map cLf)), (1, .rs 1 (w.map civ)), (4, .ptr 4 0 0), (6, .rp [iv (ls.length : Int)]), (9, .ptr 9 0 0)]) (XX (i := 906) (k := 9) (e2 := 9) (z2 := 1) (fl2 := true) rfl rfl (.next (.next .here))) (Qj (.cs (.cs (.cs (.cs (.cs (.nil)))))) (.keep (rfl) rfl (.keep (rfl) rfl (.keep (rfl) rfl (.keep (rfl) rfl (.nil))))) fun i h => by cases h)))) (Qc (Qe rfl rfl (Qq rfl rfl (Qe rfl rfl (Qa fun _ => Qd (Qm ?_))))))
          refine QC (α := Nat × Int) (fun s => w.length - s.1) (fun s => [(0, .rs 5 (ls.map cLf)), (1, .rs 1 (w.map civ)), (4, .ptr 4 0 0), (6, .rp [iv (ls.length : Int)]), (9, .ptr 9 0 0), (42, .rs 1 (w.map civ)), (43, iv (w.length : Int)), (44, iv (((s.1) : Nat) : Int))]) (fun s => [(4, .cells 55 3 [[iv 0, .nils, .nils]] true), (9, .cells 55 3 [[iv (ls.length : Int), .sl 905 0 (s.1), .sl 906 0 (0)]] false), (905, .cells 51 5 (((w.take (s.1)).map (Xt ls)).map cLf) true), (906, .cells 9 1 ((((Xc ls.length w).take (0)).map (Xb ls)).map cS) true)]) (fun s => s.1 ≤ w.length ∧ (s.1 = 0 ∧ s.2 = -1 ∨ 1 ≤ s.1 ∧ w[s.1 - 1]? = some s.2) ∧ incF (ls.length : Int) s.2 (w.drop s.1) = incF (ls.length : Int) (-1) w) (0, -1) (⟨by show 0 ≤ _; omega, .inl ⟨rfl, rfl⟩, rfl⟩)
            (Qj (.cs (.cs (.cs (.cs (.cs (.cs (.cs (.cs (.nil))))))))) (.keep (rfl) rfl (.keep (rfl) rfl (.keep (rfl) rfl (.keep (rfl) rfl (.nil))))) (fun i h => by cases h)) ?_
          rintro ⟨k, p⟩ ⟨hk, hp, hinv2⟩
          dsimp only at hk hp hinv2 ⊢
          refine Qb (Qc (QJ rfl rfl rfl (Qa fun _ => Qd (Qb (Qh rfl (fun h45 => ?_) (fun h45 => ?_))))))
          · replace h45 := of_decide_eq_true h45
            refine Qn (Qd (Qb (Qm (Qb (Qc (Qe rfl rfl ?_))))))
            obtain ⟨b, hbk, hbm⟩ := Qy (L := w) (k := k) (by omega)
            obtain ⟨hb0, hb1⟩ := hbd b hbm
            obtain ⟨x, hx, hxm⟩ := Qy (L := ls) (k := b.toNat) (by omega)
            refine Qt (f := civ) (y := b) rfl rfl rfl (by omega) hbk (Qf 3 rfl (Qa fun _ => Qd (Qb (Qb (Qc (Qe rfl rfl (QE rfl rfl rfl rfl (fun h50 => ?_) (fun h50 => ?_))))))))
            · skip
              refine Qf 3 rfl (rs_sub rfl rfl rfl (by omega) ?_)
              obtain ⟨a, ha, ham⟩ := Qy (L := w) (k := k - 1) (by omega)
              refine Qt (f := civ) (y := a) rfl rfl rfl (by omega) (by rw [show ((k : Int) - 1).toNat = k - 1 by omega]; exact ha) (Qf 2 rfl (QE rfl rfl rfl rfl (fun h58 => ?_) (fun h58 => ?_)))
              · skip
                refine QM rfl rfl rfl (Qa fun _ => Qd (Qh rfl (fun _ => ?_) (fun h => by cases h)))
                refine Qb (Qc (QU rfl rfl (Q0 rfl rfl rfl rfl rfl rfl rfl (nL rfl) rfl rfl (Qe rfl rfl (Qa fun _ => Qd (Ql (Q1 (QL ?_))))))))
                refine Q1 (Q1 (QL (Q1 ?_)))
                have he : XC ls w = 7 := shE_7 (by omega) hix h38 (by rw [← hinv2, incF_at hbk, decide_eq_false (show ¬ p < b by have hp2 := (hp.resolve_left (fun h => by omega)).2; rw [hp2] at ha; injection ha with ha; omega), Bool.and_false]; rfl)
                rw [shG_e he (by decide), he]
                exact Q5 rfl (XJ (.cons (Xg (.cons (Q6 rfl (.inr rfl)) (.cons QW (.cons QW .nil)))) (.cons (Q6 rfl (.inr rfl)) .nil))) .nil
              · skip
                refine QM rfl rfl rfl (Qa fun _ => Qd (Qh rfl (fun h => by cases h) (fun _ => ?_)))
                refine Qn (Qd (Q8 Xr (Qf 4 rfl (Qt (f := cLf) (y := x) rfl rfl rfl hb0 hx (QR (cs := cLf x) rfl rfl (nL rfl) rfl (Qv (l := (([x] : List Lf)).flatMap cLf) (els := (([x] : List Lf)).map cLf) (fl := true) rfl (by kernel_rfl) rfl rfl (by kernel_rfl) (by kernel_rfl) (QV (f := cLf) (xs := (w.take k).map (Xt ls)) (y := x) (fl' := true) rfl rfl rfl rfl (by simp; omega) rfl rfl rfl (by decide) rfl (by omega) (by omega) rfl (Q9 rfl rfl (Q0 rfl rfl rfl rfl rfl rfl rfl (nL rfl) rfl rfl ?_)))))))))
                refine Qa ⟨by kernel_rfl, fun _ => ?_⟩
                refine QI (Qd (Qc (Qx rfl rfl rfl (by omega) (Qe rfl rfl (Qa fun _ => Qd ?_)))))
                rw [incF_at hbk, show (decide (0 ≤ b) && decide (b < (ls.length : Int)) && decide (p < b)) = true from by simp only [Bool.and_eq_true, decide_eq_true_eq]; exact ⟨⟨hb0, hb1⟩, (by have hp2 := (hp.resolve_left (fun h => by omega)).2; rw [hp2] at ha; injection ha with ha; omega)⟩, Bool.true_and] at hinv2
                exact ⟨(k + 1, b), ⟨by show k + 1 ≤ _; omega, .inr ⟨by show 1 ≤ k + 1; omega, by show w[k + 1 - 1]? = _; rw [show k + 1 - 1 = k by omega]; exact hbk⟩, hinv2⟩, by show _ - (k + 1) < _; omega, show Weak _ _ _ _ [(0, .rs 5 (ls.map cLf)), (1, .rs 1 (w.map civ)), (4, .ptr 4 0 0), (6, .rp [iv (ls.length : Int)]), (9, .ptr 9 0 0), (42, .rs 1 (w.map civ)), (43, iv (w.length : Int)), (44, iv (((k + 1) : Nat) : Int))] [(4, .cells 55 3 [[iv 0, .nils, .nils]] true), (9, .cells 55 3 [[iv (ls.length : Int), .sl 905 0 (k + 1), .sl 906 0 (0)]] false), (905, .cells 51 5 (((w.take (k + 1)).map (Xt ls)).map cLf) true), (906, .cells 9 1 ((((Xc ls.length w).take (0)).map (Xb ls)).map cS) true)] from Weak.trans (F1 := [(0, .rs 5 (ls.map cLf)), (1, .rs 1 (w.map civ)), (4, .ptr 4 0 0), (6, .rp [iv (ls.length : Int)]), (9, .ptr 9 0 0), (42, .rs 1 (w.map civ)), (43, iv (w.length : Int)), (44, iv (((k + 1) : Nat) : Int))]) (H1 := [(4, .cells 55 3 [[iv 0, .nils, .nils]] true), (9, .cells 55 3 [[iv (ls.length : Int), .sl 68 0 (k + 1), .sl 906 0 (0)]] false), (68, .cells 51 5 (((w.take (k + 1)).map (Xt ls)).map cLf) true), (906, .cells 9 1 ((((Xc ls.length w).take (0)).map (Xb ls)).map cS) true)]) (Qj (.cs (.cs (.cs (.cs (.cs (.cs (.cs (.cs (.nil))))))))) (.keep (rfl) rfl (.keep (rfl) rfl (.keep (by rw [sel_succ hbk hx]; rfl) rfl (.keep (rfl) rfl (.nil))))) fun i h => by cases h) (Weak.trans (F1 := [(0, .rs 5 (ls.map cLf)), (1, .rs 1 (w.map civ)), (4, .ptr 4 0 0), (6, .rp [iv (ls.length : Int)]), (9, .ptr 9 0 0), (42, .rs 1 (w.map civ)), (43, iv (w.length : Int)), (44, iv (((k + 1) : Nat) : Int))]) (XI (i := 68) (i' := 905) (k := 9) rfl rfl (.cons rfl (.same _) (.cons rfl (.same _) (.cons rfl (.same _) (.cons rfl (.same _) (.cons rfl (.same _) (.cons rfl (.same _) (.cons rfl (.same _) (.cons rfl (.same _) (.nil))))))))) (by decide) rfl (.cons (.same _) (.cons (.sl _ _) (RenL.refl _ _ _)))) (Qj (.cs (.cs (.cs (.cs (.cs (.cs (.cs (.cs (.nil))))))))) (.keep (rfl) rfl (.keep (rfl) rfl (.keep (rfl) rfl (.keep (rfl) rfl (.nil))))) fun i h => by cases h))⟩
            · skip
              refine Qf 9 rfl (Qa fun _ => Qd (Qh rfl (fun h => by cases h) (fun _ => ?_)))
              refine Qn (Qd (Q8 Xr (Qf 4 rfl (Qt (f := cLf) (y := x) rfl rfl rfl hb0 hx (QR (cs := cLf x) rfl rfl (nL rfl) rfl (Qv (l := (([x] : List Lf)).flatMap cLf) (els := (([x] : List Lf)).map cLf) (fl := true) rfl (by kernel_rfl) rfl rfl (by kernel_rfl) (by kernel_rfl) (QV (f := cLf) (xs := (w.take k).map (Xt ls)) (y := x) (fl' := true) rfl rfl rfl rfl (by simp; omega) rfl rfl rfl (by decide) rfl (by omega) (by omega) rfl (Q9 rfl rfl (Q0 rfl rfl rfl rfl rfl rfl rfl (nL rfl) rfl rfl ?_)))))))))
              refine Qa ⟨by kernel_rfl, fun _ => ?_⟩
              refine QI (Qd (Qc (Qx rfl rfl rfl (by omega) (Qe rfl rfl (Qa fun _ => Qd ?_)))))
              rw [incF_at hbk, show (decide (0 ≤ b) && decide (b < (ls.length : Int)) && decide (p < b)) = true from by simp only [Bool.and_eq_true, decide_eq_true_eq]; exact ⟨⟨hb0, hb1⟩, (hp.elim (fun h => by omega) (fun h => by omega))⟩, Bool.true_and] at hinv2
              exact ⟨(k + 1, b), ⟨by show k + 1 ≤ _; omega, .inr ⟨by show 1 ≤ k + 1; omega, by show w[k + 1 - 1]? = _; rw [show k + 1 - 1 = k by omega]; exact hbk⟩, hinv2⟩, by show _ - (k + 1) < _; omega, show Weak _ _ _ _ [(0, .rs 5 (ls.map cLf)), (1, .rs 1 (w.map civ)), (4, .ptr 4 0 0), (6, .rp [iv (ls.length : Int)]), (9, .ptr 9 0 0), (42, .rs 1 (w.map civ)), (43, iv (w.length : Int)), (44, iv (((k + 1) : Nat) : Int))] [(4, .cells 55 3 [[iv 0, .nils, .nils]] true), (9, .cells 55 3 [[iv (ls.length : Int), .sl 905 0 (k + 1), .sl 906 0 (0)]] false), (905, .cells 51 5 (((w.take (k + 1)).map (Xt ls)).map cLf) true), (906, .cells 9 1 ((((Xc ls.length w).take (0)).map (Xb ls)).map cS) true)] from Weak.trans (F1 := [(0, .rs 5 (ls.map cLf)), (1, .rs 1 (w.map civ)), (4, .ptr 4 0 0), (6, .rp [iv (ls.length : Int)]), (9, .ptr 9 0 0), (42, .rs 1 (w.map civ)), (43, iv (w.length : Int)), (44, iv (((k + 1) : Nat) : Int))]) (H1 := [(4, .cells 55 3 [[iv 0, .nils, .nils]] true), (9, .cells 55 3 [[iv (ls.length : Int), .sl 68 0 (k + 1), .sl 906 0 (0)]] false), (68, .cells 51 5 (((w.take (k + 1)).map (Xt ls)).map cLf) true), (906, .cells 9 1 ((((Xc ls.length w).take (0)).map (Xb ls)).map cS) true)]) (Qj (.cs (.cs (.cs (.cs (.cs (.cs (.cs (.cs (.nil))))))))) (.keep (rfl) rfl (.keep (rfl) rfl (.keep (by rw [sel_succ hbk hx]; rfl) rfl (.keep (rfl) rfl (.nil))))) fun i h => by cases h) (Weak.trans (F1 := [(0, .rs 5 (ls.map cLf)), (1, .rs 1 (w.map civ)), (4, .ptr 4 0 0), (6, .rp [iv (ls.length : Int)]), (9, .ptr 9 0 0), (42, .rs 1 (w.map civ)), (43, iv (w.length : Int)), (44, iv (((k + 1) : Nat) : Int))]) (XI (i := 68) (i' := 905) (k := 9) rfl rfl (.cons rfl (.same _) (.cons rfl (.same _) (.cons rfl (.same _) (.cons rfl (.same _) (.cons rfl (.same _) (.cons rfl (.same _) (.cons rfl (.same _) (.cons rfl (.same _) (.nil))))))))) (by decide) rfl (.cons (.same _) (.cons (.sl _ _) (RenL.refl _ _ _)))) (Qj (.cs (.cs (.cs (.cs (.cs (.cs (.cs (.cs (.nil))))))))) (.keep (rfl) rfl (.keep (rfl) rfl (.keep (rfl) rfl (.keep (rfl) rfl (.nil))))) fun i h => by cases h))⟩
          · replace h45 := of_decide_eq_false h45
            refine Q3 (QB (QB (QA (Qd (Qb (Qb ?_))))))
            obtain rfl : k = w.length := by omega
            have hinc : incF (ls.length : Int) (-1) w = true := by rw [← hinv2, List.drop_eq_nil_of_le (Nat.le_refl _)]; rfl
            have hlv : LvsOK ls := ⟨by omega, fun i x h => by rw [ixF_ix hix i x h]; omega, hok⟩
            have he : XC ls w = 0 := shE_0 (by omega) hix h38 hinc
            have hha := hidA_len (w := w) hlv.n.2
            refine Qc (Qf 2 rfl (Qi [] rfl rfl (vc67 ls.length hlv.n w (by omega)) (.cons (Qg rfl) (.cons (Qg rfl) (.nil))) rfl (Qq rfl rfl (Qe rfl rfl (Qa fun _ => Qd (Qm ?_))))))
            refine QC (α := Nat) (fun k => (Xc ls.length w).length - k) (fun k => [(0, .rs 5 (ls.map cLf)), (1, .rs 1 (w.map civ)), (4, .ptr 4 0 0), (6, .rp [iv (ls.length : Int)]), (9, .ptr 9 0 0), (73, .rs 2 ((Xc ls.length w).map cSp)), (74, iv ((Xc ls.length w).length : Int)), (75, iv (((k) : Nat) : Int))]) (fun k => [(4, .cells 55 3 [[iv 0, .nils, .nils]] true), (9, .cells 55 3 [[iv (ls.length : Int), .sl 905 0 (w.length), .sl 906 0 (k)]] false), (905, .cells 51 5 (((w.take (w.length)).map (Xt ls)).map cLf) true), (906, .cells 9 1 ((((Xc ls.length w).take (k)).map (Xb ls)).map cS) true)]) (fun k => k ≤ (Xc ls.length w).length) 0 (by omega)
              (Qj (.cs (.cs (.cs (.cs (.cs (.cs (.cs (.cs (.nil))))))))) (.keep (rfl) rfl (.keep (rfl) rfl (.keep (rfl) rfl (.keep (rfl) rfl (.nil))))) (fun i h => by cases h)) ?_
            intro k hk
            refine Qb (Qc (QJ rfl rfl rfl (Qa fun _ => Qd (Qb (Qh rfl (fun h76 => ?_) (fun h76 => ?_))))))
            · replace h76 := of_decide_eq_true h76
              refine Qn (Qd (Qb (Qm (Qb (Qc ?_)))))
              obtain ⟨s, hsk, hsm⟩ := Qy (L := Xc ls.length w) (k := k) (by omega)
              obtain ⟨c, e, rfl, he2, hce, hcn⟩ := hidA_mem hlv.n.2 hsm
              refine Qt (f := cSp) (y := (c, 2 ^ e)) rfl rfl rfl (by omega) hsk (QR (cs := cP c (2 ^ e)) rfl rfl (nL rfl) rfl (QF rfl rfl rfl (Q0 rfl rfl rfl rfl rfl rfl rfl (nL rfl) rfl rfl (Qa fun _ => Qd (Q8 Xr (Qf 3 rfl (XN [] rfl rfl (vc68 ls) (.cons (Qg rfl) .nil) .nil rfl rfl rfl (Qo rfl rfl rfl rfl (nL rfl) rfl ?_))))))))
              refine Qi [] rfl rfl (vc69_1 ls (ofK ls) (ofK_ok ls) (fun b m _ => vc119 ls hlv.ls b m) e c (by omega)) (.cons (Qg rfl) (.cons (Qg rfl) (.nil))) rfl (Qv (l := (([Q4 (ofK ls) e c] : List (List Int))).flatMap cS) (els := (([Q4 (ofK ls) e c] : List (List Int))).map cS) (fl := true) rfl (by kernel_rfl) rfl rfl (by kernel_rfl) (by kernel_rfl) (QV (f := cS) (xs := ((Xc ls.length w).take k).map (Xb ls)) (y := Q4 (ofK ls) e c) (fl' := true) rfl rfl rfl rfl (by simp; omega) rfl rfl rfl (by decide) rfl (by omega) (by omega) rfl (Q9 rfl rfl (Q0 rfl rfl rfl rfl rfl rfl rfl (nL rfl) rfl rfl (Qa ⟨by kernel_rfl, fun _ => ?_⟩)))))
              refine QI (Qd (Qc (Qx rfl rfl rfl (by omega) (Qe rfl rfl (Qa fun _ => Qd ?_)))))
              exact ⟨k + 1, by omega, by omega, show Weak _ _ _ _ [(0, .rs 5 (ls.map cLf)), (1, .rs 1 (w.map civ)), (4, .ptr 4 0 0), (6, .rp [iv (ls.length : Int)]), (9, .ptr 9 0 0), (73, .rs 2 ((Xc ls.length w).map cSp)), (74, iv ((Xc ls.length w).length : Int)), (75, iv (((k + 1) : Nat) : Int))] [(4, .cells 55 3 [[iv 0, .nils, .nils]] true), (9, .cells 55 3 [[iv (ls.length : Int), .sl 905 0 (w.length), .sl 906 0 (k + 1)]] false), (905, .cells 51 5 (((w.take (w.length)).map (Xt ls)).map cLf) true), (906, .cells 9 1 ((((Xc ls.length w).take (k + 1)).map (Xb ls)).map cS) true)] from Weak.trans (F1 := [(0, .rs 5 (ls.map cLf)), (1, .rs 1 (w.map civ)), (4, .ptr 4 0 0), (6, .rp [iv (ls.length : Int)]), (9, .ptr 9 0 0), (73, .rs 2 ((Xc ls.length w).map cSp)), (74, iv ((Xc ls.length w).length : Int)), (75, iv (((k + 1) : Nat) : Int))]) (H1 := [(4, .cells 55 3 [[iv 0, .nils, .nils]] true), (9, .cells 55 3 [[iv (ls.length : Int), .sl 905 0 (w.length), .sl 86 0 (k + 1)]] false), (905, .cells 51 5 (((w.take (w.length)).map (Xt ls)).map cLf) true), (86, .cells 9 1 ((((Xc ls.length w).take (k + 1)).map (Xb ls)).map cS) true)]) (Qj (.cs (.cs (.cs (.cs (.cs (.cs (.cs (.cs (.nil))))))))) (.keep (rfl) rfl (.keep (rfl) rfl (.keep (rfl) rfl (.keep (by rw [hidT_succ hsk he2]; rfl) rfl (.nil))))) fun i h => by cases h) (Weak.trans (F1 := [(0, .rs 5 (ls.map cLf)), (1, .rs 1 (w.map civ)), (4, .ptr 4 0 0), (6, .rp [iv (ls.length : Int)]), (9, .ptr 9 0 0), (73, .rs 2 ((Xc ls.length w).map cSp)), (74, iv ((Xc ls.length w).length : Int)), (75, iv (((k + 1) : Nat) : Int))]) (XI (i := 86) (i' := 906) (k := 9) rfl rfl (.cons rfl (.same _) (.cons rfl (.same _) (.cons rfl (.same _) (.cons rfl (.same _) (.cons rfl (.same _) (.cons rfl (.same _) (.cons rfl (.same _) (.cons rfl (.same _) (.nil))))))))) (by decide) rfl (.cons (.same _) (.cons (.same _) (.cons (.sl _ _) (RenL.refl _ _ _))))) (Qj (.cs (.cs (.cs (.cs (.cs (.cs (.cs (.cs (.nil))))))))) (.keep (rfl) rfl (.keep (rfl) rfl (.keep (rfl) rfl (.keep (rfl) rfl (.nil))))) fun i h => by cases h))⟩
            · replace h76 := of_decide_eq_false h76
              refine Q3 (QB (QB (QA (Qd (Qb (Qc (Qo rfl rfl rfl rfl (nL rfl) rfl (Q0 rfl rfl rfl rfl rfl rfl rfl (nL rfl) rfl rfl (Qe rfl rfl ?_)))))))))
              refine Qa fun _ => Qd (Ql ?_)
              obtain rfl : k = (Xc ls.length w).length := by omega
              rw [shG_0 he, he, show cSh (showS ls w) = [iv (ls.length : Int), .rs 5 (((w.take w.length).map (Xt ls)).map cLf), .rs 1 ((((Xc ls.length w).take (Xc ls.length w).length).map (Xb ls)).map cS)] by rw [List.take_of_length_le (Nat.le_refl _), List.take_of_length_le (Nat.le_refl _)]; rfl]
              exact Q5 rfl (XJ (.cons (Xg (.cons (Q6 rfl (.inr rfl)) (.cons (QK rfl rfl (by simp) (fun _ => rfl)) (.cons (QK rfl rfl (by simp) (fun _ => rfl)) .nil)))) (.cons (Q6 rfl (.inr rfl)) .nil))) .nil
        · skip
          refine Qa fun _ => Qd (Qh rfl (fun _ => ?_) (fun h => by cases h))
          refine Qb (Qc (QU rfl rfl (Q0 rfl rfl rfl rfl rfl rfl rfl (nL rfl) rfl rfl (Qe rfl rfl (Qa fun _ => Qd (Ql (Q1 ?_)))))))
          have he : XC ls w = 5 := shE_5 (by omega) hix h38
          rw [shG_e he (by decide), he]
          exact Q5 rfl (XJ (.cons (Xg (.cons (Q6 rfl (.inr rfl)) (.cons QW (.cons QW .nil)))) (.cons (Q6 rfl (.inr rfl)) .nil))) .nil
def mcv45 : MC := (.seq (.reg [oN 6 (.mv (.c (.bool false))) []] false) (.seq (.reg [oM 10 0 [], oM 11 1 [], oN 12 (.call 22 [(.t 10), (.t 11)]) [0, 1], oM 9 12 [2], oN 13 (.ext (.t 9) 0) [3], oN 14 (.ext (.t 9) 1) [3], oN 7 (.alloc 55 3 [(.int .i64 0), .nils, .nils]) [], ⟨none, (.st 3 (.t 7) (.t 13)), none, [6, 4, 2, 0, 1, 2, 3, 4, 6]⟩, oM 8 14 [5, 7, 0, 1, 2, 3, 4, 5, 6, 7]] false) (.seq (.reg [oM 15 8 [], oN 16 (.bin .eql (.t 15) (.c (.int .i64 0))) [0], oM 17 16 [1], pA 18 0 7 17 true [2], pD 19 1 18 17 true [3, 2], pM 20 0 17 true [2], oG 21 (.len (.t 20)) 17 true [5, 2], oG 22 (.bin .eql (.t 19) (.t 21)) 17 true [4, 6, 2], oN 23 (.pick (.t 17) (.t 22) (.c (.bool false))) [2, 7], oM 24 23 [8, 2], pA 25 2 7 24 true [9], pD 26 1 25 24 true [10, 9], pM 27 2 24 true [9], oG 28 (.call 34 [(.t 26), (.t 27)]) 24 true [11, 12, 9, 9], oN 29 (.pick (.t 24) (.t 28) (.c (.bool false))) [9, 13], oM 30 29 [14, 13], pA 31 1 7 30 true [15], pD 32 1 31 30 true [16, 15], oG 33 (.len (.t 32)) 30 true [17, 15], pM 34 1 30 true [15], oG 35 (.len (.t 34)) 30 true [19, 15], oG 36 (.bin .eql (.t 33) (.t 35)) 30 true [18, 20, 15], oN 37 (.pick (.t 30) (.t 36) (.c (.bool false))) [15, 21], oM 6 37 [22, 15, 0, 1, 2, 3, 4, 5, 6, 7, 8, 9, 10, 11, 12, 13, 14, 15, 16, 17, 18, 19, 20, 21, 22]] false) .ret)))
theorem mcOkv45 : (match Tryz.f45.body with | some c => Q2 Tryz.prog 38 c | none => none) = some mcv45 := by kernel_rfl
theorem vc45 (ls : List Lf) (hl : ls.length ≤ 64) (hok : ∀ x ∈ ls, x.OK) (w : List Int) (hwl : w.length ≤ 64) (want : List (List Int)) (hwa : ∀ d ∈ want, B8 d) : FC Tryz.prog 45 [.rs 5 (ls.map cLf), .rs 1 (w.map civ), .rs 1 (want.map cS)] [] (.bool (shB ls w want)) [] false := by
  have h8 : ∀ d ∈ (showG ls w).hid, B8 d := fun d hd => (showG_8 d hd).1
  have hgl : (showG ls w).hid.length ≤ 16 := by
    by_cases h0 : XC ls w = 0
    · rw [shG_0 h0]; show ((Xc ls.length w).map (Xb ls)).length ≤ 16; rw [List.length_map]; exact hidA_len (by unfold XC at h0; split at h0; cases h0; omega)
    · rw [shG_e rfl h0]; exact Nat.zero_le _
  refine Qs (nt := 38) Tryz.func45 rfl rfl mcOkv45 (nL rfl) ?_
  delta mcv45
  refine Qb (Qc (Qe rfl rfl (Qa fun _ => Qd (Qb (Qc (Qf 2 rfl (Qi [] rfl rfl (vc22 ls hl hok w hwl) (.cons (Qg rfl) (.cons (Qg rfl) (.nil))) rfl (Qf 4 rfl ?_))))))))
  refine Q0 rfl rfl rfl rfl rfl rfl rfl (nL rfl) rfl rfl (Qe rfl rfl (Qa fun _ => Qd (Qb (Qc (Qe rfl rfl (QE rfl rfl rfl rfl (fun h16 => ?_) (fun h16 => ?_)))))))
  · skip
    refine Qf 4 rfl (Qq rfl rfl (QE rfl rfl rfl rfl (fun h22 => ?_) (fun h22 => ?_)))
    · skip
      refine Qf 5 rfl (Qi [] rfl rfl (vc34 (showG ls w).hid want h8 hwa (by omega)) (.cons (Qg rfl) (.cons (Qg rfl) (.nil))) rfl ?_)
      cases h28 : decide ((showG ls w).hid = want)
      · skip
        refine Qf 10 rfl (Qa fun _ => Qd (Ql ?_))
        rw [show shB ls w want = false from by unfold shB; rw [decide_eq_true h16, decide_eq_true h22, h28]; rfl]
        exact Qk rfl rfl rfl (.inr rfl)
      · skip
        refine Qf 4 rfl (Qq rfl rfl (Qe rfl rfl (Qq rfl rfl (QE rfl rfl rfl rfl (fun h36 => ?_) (fun h36 => ?_)))))
        · skip
          refine Qf 2 rfl (Qa fun _ => Qd (Ql ?_))
          rw [show shB ls w want = true from by unfold shB; rw [decide_eq_true h16, decide_eq_true h22, h28, decide_eq_true h36]; rfl]
          exact Qk rfl rfl rfl (.inr rfl)
        · skip
          refine Qf 2 rfl (Qa fun _ => Qd (Ql ?_))
          rw [show shB ls w want = false from by unfold shB; rw [decide_eq_true h16, decide_eq_true h22, h28, decide_eq_false h36]; rfl]
          exact Qk rfl rfl rfl (.inr rfl)
    · skip
      refine Qf 16 rfl (Qa fun _ => Qd (Ql ?_))
      rw [show shB ls w want = false from by unfold shB; rw [decide_eq_true h16, decide_eq_false h22]; rfl]
      exact Qk rfl rfl rfl (.inr rfl)
  · skip
    refine Qf 22 rfl (Qa fun _ => Qd (Ql ?_))
    rw [show shB ls w want = false from by unfold shB; rw [decide_eq_false h16]; rfl]
    exact Qk rfl rfl rfl (.inr rfl)
end Go.Proofs.YthfhaoogcpfboaaGreat

/-! Walks: VU. -/
namespace Go.Proofs.YthfhaoogcpfboaaGreat
open Go.RowKit
set_option maxRecDepth 100000
set_option linter.unusedVariables false
def eL (k : Nat) : Lf := match k with
  | 0 => ⟨0, 1, false, false, XH [115] [0]⟩
  | 1 => ⟨1, 2, true, true, XH [115] [2]⟩
  | _ => ⟨2, 3, false, false, XH [115] [4]⟩
abbrev eLs : List Lf := [eL 0, eL 1, eL 2]
def eN : Lf := ⟨1, 2, false, true, XH [115] [2]⟩
theorem exF : fineB (verdS exA exX) = true := by decide +kernel
theorem exL_eq : exL = eLs := by
  unfold exL X9
  rw [if_pos ⟨exF, by decide⟩]
  rfl
def eD (k : Nat) : List Int := Jr (X7 (eL k))
def eLow : List Int := Ja (eD 0) (eD 1)
def Jz : List Int := Ja (eD 2) missS
def eRoot : List Int := Ja eLow Jz
theorem mark_ok (k m : List Int) : B8 (XH k m) ∧ (XH k m).length ≤ LIM := ⟨(Jb _).1, by rw [show (XH k m).length = 8 from (Jb _).2]; decide⟩
theorem JL (k m : List Int) : B8 (Ja k m) ∧ (Ja k m).length ≤ LIM := ⟨(Jb _).1, by rw [show (Ja k m).length = 8 from (Jb _).2]; decide⟩
theorem leafD_ok (k : List Int) : B8 (Jr k) ∧ (Jr k).length ≤ LIM := ⟨(Jb _).1, by rw [show (Jr k).length = 8 from (Jb _).2]; decide⟩
theorem eL_ok (k : Nat) : (eL k).OK := by
  have h8 : ∀ m, (XH [115] m).length ≤ 1000000000 := fun m => by rw [show (XH [115] m).length = 8 from (Jb _).2]; decide
  unfold eL
  split <;> exact ⟨by decide, by decide, (mark_ok _ _).1, h8 _⟩
theorem eN_ok : eN.OK := ⟨by decide, by decide, (mark_ok _ _).1, by rw [show eN.salt.length = 8 from (Jb _).2]; decide⟩
theorem eLs_ok : ∀ x ∈ eLs, x.OK := fun x hx => by
  simp only [eLs, List.mem_cons, List.not_mem_nil, or_false] at hx
  rcases hx with rfl | rfl | rfl <;> exact eL_ok _
theorem text_ok (k : Nat) : B8 (X7 (eL k)) ∧ (X7 (eL k)).length ≤ LIM := ⟨textS_8 (eL_ok k).b, Nat.le_trans (textS_len (eL_ok k).n) (by decide)⟩
theorem eText : X7 (eL 1) = [8, 2, 4, 2, 2, 16] ++ XH [115] [2] := by decide +kernel
theorem eRootF : rootF eLs = eRoot := by decide +kernel
theorem eS1 : shB eLs [1] [eD 0, Jz] = true := by decide +kernel
theorem eS2 : shB eLs [2] [eLow] = true := by decide +kernel
theorem eS3 : shB eLs [] [eRoot] = true := by decide +kernel
theorem eS4 : shB eLs [0, 1, 2] [] = true := by decide +kernel
theorem eE3 : XC eLs [3] = 5 := by decide +kernel
theorem eE11 : XC eLs [1, 1] = 7 := by decide +kernel
theorem eE0 : XC [] [] = 2 := by decide +kernel
theorem eE1 : XC eLs [1] = 0 := by decide +kernel
abbrev eSh : Shn := ⟨3, [eL 1], [eD 0, Jz]⟩
theorem eG1 : showG eLs [1] = eSh := by decide +kernel
theorem eR1 : Jx 3 [eL 1] [eD 0, Jz] = some eRoot := by decide +kernel
theorem eC1 : J8 3 [eL 1] [eD 0, Jz] 3 [eN] [eD 0, Jz] = 7 := by decide +kernel
theorem eC2 : J8 3 [eN] [eD 0, Jz] 3 [eL 1] [eD 0, Jz] = 0 := by decide +kernel
theorem eSh_ok : ShOK [eL 1] [eD 0, Jz] := ⟨by decide, by decide, fun x hx => by rw [List.mem_singleton.1 hx]; exact eL_ok 1, fun d hd => by
  simp only [List.mem_cons, List.not_mem_nil, or_false] at hd
  rcases hd with rfl | rfl
  · exact leafD_ok _
  · exact JL _ _⟩
theorem eShN_ok : ShOK [eN] [eD 0, Jz] := ⟨by decide, by decide, fun x hx => by rw [List.mem_singleton.1 hx]; exact eN_ok, eSh_ok.b⟩
def eAr (k : Nat) : List AV := match k with
  | 0 => [.str (Qu []), .str (Qu []), .str (Qu [])]
  | 1 => [.str (Qu (eD 0)), .str (Qu []), .str (Qu [])]
  | 2 => [.str (Qu (eD 0)), .str (Qu (eD 1)), .str (Qu [])]
  | _ => [.str (Qu (eD 0)), .str (Qu (eD 1)), .str (Qu (eD 2))]
def mcv8 : MC := (.seq (.reg [oN 0 (.mv (.c (.bool false))) []] false) (.seq (.reg [oN 19 (.call 39 []) [], oM 1 19 [0, 0, 0]] false) (.seq (.seq (.reg [oM 20 1 [], oN 21 (.len (.t 20)) [0], oN 22 (.bin .neq (.t 21) (.c (.int .i64 3))) [1], oM 23 22 [2], pM 24 1 23 false [3], oG 25 (.ixsl 5 (.t 24) (.c (.int .i64 1))) 23 false [4, 3], oG 26 (.ld true 5 (.t 25)) 23 false [5, 3], oG 27 (.call 40 [(.c (.str (Qu [115]))), (.c (.str (Qu [2])))]) 23 false [3, 3], oG 28 (.build [(.int .i64 0), (.int .i64 0), (.bool false), (.bool false), (.str (Qu []))] [(0, (1, (.c (.int .i64 1)))), (1, (1, (.c (.int .i64 2)))), (2, (1, (.c (.bool true)))), (3, (1, (.c (.bool true)))), (4, (1, (.t 27)))]) 23 false [7, 3], oG 29 (.aeqx true [0, 0, 1, 1, 2] (.t 26) (.t 28)) 23 false [6, 8, 3], oN 30 (.pick (.t 23) (.c (.bool true)) (.t 29)) [3, 9]] true) (.cond (.t 30) (.seq (.reg [oN 0 (.mv (.c (.bool false))) []] false) .ret) .skip)) (.seq (.reg [oN 2 (.alloc 76 3 [(.str (Qu [])), (.str (Qu [])), (.str (Qu []))]) []] false) (.seq (.seq (.reg [oN 31 (.mv (.c (.int .i64 0))) []] false) (.block 0 (.loop (.seq (.reg [oN 32 (.bin .lss (.t 31) (.c (.int .i64 3))) []] false) (.seq (.cond (.t 32) .skip (.exit 0)) (.seq (.block 1 (.seq (.reg [oM 33 31 [], oM 3 33 [0, 0]] false) (.reg [oM 34 3 [], oM 35 1 [], oM 36 3 [], oN 37 (.ixsl 5 (.t 35) (.t 36)) [1, 2], oN 38 (.ld true 5 (.t 37)) [3], oN 39 (.call 42 [(.t 38)]) [4], oN 40 (.call 41 [(.t 39)]) [5, 5], oN 41 (.ixarr 3 1 (.t 2) (.t 34)) [0, 0, 1, 2, 3, 4, 5, 6], ⟨none, (.st 1 (.t 41) (.t 40)), none, [7, 6, 6, 0, 1, 2, 3, 4, 5, 6]⟩] false))) (.reg [oN 42 (.bin .add (.t 31) (.c (.int .i64 1))) [], oM 31 42 [0]] false))))))) (.seq (.reg [oN 43 (.ixarr 3 1 (.t 2) (.c (.int .i64 0))) [], oD 44 1 43 [0], oN 45 (.ixarr 3 1 (.t 2) (.c (.int .i64 1))) [], oD 46 1 45 [2], oN 47 (.call 43 [(.t 44), (.t 46)]) [1, 3], oN 48 (.ixarr 3 1 (.t 2) (.c (.int .i64 2))) [], oD 49 1 48 [5], oN 50 (.call 44 []) [4], oN 51 (.call 43 [(.t 49), (.t 50)]) [6, 7, 7], oM 4 47 [4, 8, 0, 1, 2, 3, 4], oM 5 51 [8, 9, 0, 1, 2, 3, 4, 5, 6, 7, 8, 9]] true) (.seq (.reg [oM 52 4 [], oM 53 5 [], oN 54 (.call 43 [(.t 52), (.t 53)]) [0, 1], oM 6 54 [2, 2, 0, 1, 2]] false) (.seq (.reg [oM 55 1 [], oN 56 (.ixsl 5 (.t 55) (.c (.int .i64 1))) [0], oN 57 (.ld true 5 (.t 56)) [1], oN 58 (.call 42 [(.t 57)]) [2], oN 59 (.call 40 [(.c (.str (Qu [115]))), (.c (.str (Qu [2])))]) [3], oN 60 (.scat (.c (.str (Qu [8, 2, 4, 2, 2, 16]))) (.t 59)) [4], oN 61 (.seq false (.t 58) (.t 60)) [3, 5], oM 62 61 [6, 4], pM 63 1 62 true [7], oG 64 (.call 19 [(.t 63)]) 62 true [8, 7, 7], pM 65 6 62 true [7], oG 66 (.seq false (.t 64) (.t 65)) 62 true [9, 10, 7], oN 67 (.pick (.t 62) (.t 66) (.c (.bool false))) [7, 11], oM 68 67 [12, 9], pM 69 1 68 true [13], oG 70 (.bslice 3 1 [(.int .i64 0)] 1 [(0, (.c (.int .i64 1)))]) 68 true [13], oG 71 (.ixarr 3 1 (.t 2) (.c (.int .i64 0))) 68 true [13], pD 72 1 71 68 true [16, 13], pM 73 5 68 true [13], oG 74 (.bslice 9 1 [(.str (Qu []))] 2 [(0, (.t 72)), (1, (.t 73))]) 68 true [17, 18, 13], oG 75 (.call 45 [(.t 69), (.t 70), (.t 74)]) 68 true [14, 15, 19, 13, 13], oN 76 (.pick (.t 68) (.t 75) (.c (.bool false))) [13, 20], oM 77 76 [21, 20], pM 78 1 77 true [22], oG 79 (.bslice 3 1 [(.int .i64 0)] 1 [(0, (.c (.int .i64 2)))]) 77 true [22], pM 80 4 77 true [22], oG 81 (.bslice 9 1 [(.str (Qu []))] 1 [(0, (.t 80))]) 77 true [25, 22], oG 82 (.call 45 [(.t 78), (.t 79), (.t 81)]) 77 true [23, 24, 26, 22, 22], oN 83 (.pick (.t 77) (.t 82) (.c (.bool false))) [22, 27], oM 84 83 [28, 27], pM 85 1 84 true [29], pM 86 6 84 true [29], oG 87 (.bslice 9 1 [(.str (Qu []))] 1 [(0, (.t 86))]) 84 true [31, 29], oG 88 (.call 45 [(.t 85), (.c .nils), (.t 87)]) 84 true [30, 32, 29, 29], oN 89 (.pick (.t 84) (.t 88) (.c (.bool false))) [29, 33], oM 90 89 [34, 33], pM 91 1 90 true [35], oG 92 (.bslice 3 1 [(.int .i64 0)] 3 [(0, (.c (.int .i64 0))), (1, (.c (.int .i64 1))), (2, (.c (.int .i64 2)))]) 90 true [35], oG 93 (.call 45 [(.t 91), (.t 92), (.c .nils)]) 90 true [36, 37, 35, 35], oN 94 (.pick (.t 90) (.t 93) (.c (.bool false))) [35, 38], oM 7 94 [39, 38, 0, 1, 2, 3, 4, 5, 6, 7, 8, 9, 10, 11, 12, 13, 14, 15, 16, 17, 18, 19, 20, 21, 22, 23, 24, 25, 26, 27, 28, 29, 30, 31, 32, 33, 34, 35, 36, 37, 38, 39]] false) (.seq (.reg [oM 96 1 [], oN 97 (.bslice 3 1 [(.int .i64 0)] 1 [(0, (.c (.int .i64 3)))]) [], oN 98 (.call 22 [(.t 96), (.t 97)]) [0, 1], oM 95 98 [2], oN 99 (.ext (.t 95) 0) [3], oN 100 (.ext (.t 95) 1) [3], oN 8 (.alloc 55 3 [(.int .i64 0), .nils, .nils]) [], ⟨none, (.st 3 (.t 8) (.t 99)), none, [6, 4, 2, 0, 1, 2, 3, 4, 6]⟩, oM 9 100 [5, 7, 0, 1, 2, 3, 4, 5, 6, 7]] false) (.seq (.reg [oM 102 1 [], oN 103 (.bslice 3 1 [(.int .i64 0)] 2 [(0, (.c (.int .i64 1))), (1, (.c (.int .i64 1)))]) [], oN 104 (.call 22 [(.t 102), (.t 103)]) [0, 1], oM 101 104 [2], oN 105 (.ext (.t 101) 0) [3], oN 106 (.ext (.t 101) 1) [3], oN 10 (.alloc 55 3 [(.int .i64 0), .nils, .nils]) [], ⟨none, (.st 3 (.t 10) (.t 105)), none, [6, 4, 2, 0, 1, 2, 3, 4, 6]⟩, oM 11 106 [5, 7, 0, 1, 2, 3, 4, 5, 6, 7]] false) (.seq (.reg [oN 108 (.call 22 [(.c .nils), (.c .nils)]) [], oM 107 108 [0], oN 109 (.ext (.t 107) 0) [1], oN 110 (.ext (.t 107) 1) [1], oN 12 (.alloc 55 3 [(.int .i64 0), .nils, .nils]) [], ⟨none, (.st 3 (.t 12) (.t 109)), none, [4, 2, 0, 0, 1, 2, 4]⟩, oM 13 110 [3, 5, 0, 1, 2, 3, 4, 5]] false) (.seq (.reg [oM 112 1 [], oN 113 (.bslice 3 1 [(.int .i64 0)] 1 [(0, (.c (.int .i64 1)))]) [], oN 114 (.call 22 [(.t 112), (.t 113)]) [0, 1], oM 111 114 [2], oN 115 (.ext (.t 111) 0) [3], oN 116 (.ext (.t 111) 1) [3], oN 14 (.alloc 55 3 [(.int .i64 0), .nils, .nils]) [], ⟨none, (.st 3 (.t 14) (.t 115)), none, [6, 4, 2, 0, 1, 2, 3, 4, 6]⟩, oM 15 116 [5, 7, 0, 1, 2, 3, 4, 5, 6, 7]] false) (.seq (.reg [oN 118 (.ld true 3 (.t 14)) [], oN 119 (.call 27 [(.t 118)]) [0], oM 117 119 [1], oN 120 (.ext (.t 117) 0) [2], oN 121 (.ext (.t 117) 1) [2], oM 16 120 [3, 1, 0, 1, 2, 3], oM 17 121 [4, 5, 0, 1, 2, 3, 4, 5]] false) (.seq (.reg [oN 122 (.ld true 3 (.t 14)) [], oN 123 (.call 31 [(.t 122)]) [0], oN 18 (.alloc 55 3 [(.int .i64 0), .nils, .nils]) [], ⟨none, (.st 3 (.t 18) (.t 123)), none, [2, 1, 1, 0, 1, 2]⟩] false) (.seq (.seq (.reg [oA 124 1 18 [], oD 125 1 124 [0], oN 126 (.len (.t 125)) [1], oN 127 (.bin .neq (.t 126) (.c (.int .i64 1))) [2]] false) (.cond (.t 127) (.seq (.reg [oN 0 (.mv (.c (.bool false))) []] false) .ret) .skip)) (.seq (.reg [oA 128 1 18 [], oD 129 1 128 [0], oN 130 (.ixsl 5 (.t 129) (.c (.int .i64 0))) [1, 0, 1], oA 131 2 130 [2, 0, 1], ⟨none, (.st 1 (.t 131) (.c (.bool false))), none, [3, 0, 1]⟩] false) (.seq (.reg [oM 132 7 [], oM 133 132 [0], pM 134 9 133 true [1], oG 135 (.bin .eql (.t 134) (.c (.int .i64 5))) 133 true [2, 1], oN 136 (.pick (.t 133) (.t 135) (.c (.bool false))) [1, 3], oM 137 136 [4, 1], pM 138 11 137 true [5], oG 139 (.bin .eql (.t 138) (.c (.int .i64 7))) 137 true [6, 5], oN 140 (.pick (.t 137) (.t 139) (.c (.bool false))) [5, 7], oM 141 140 [8, 5], pM 142 13 141 true [9], oG 143 (.bin .eql (.t 142) (.c (.int .i64 2))) 141 true [10, 9], oN 144 (.pick (.t 141) (.t 143) (.c (.bool false))) [9, 11], oM 145 144 [12, 9], pM 146 17 145 true [13], oN 147 (.pick (.t 145) (.t 146) (.c (.bool false))) [13, 14], oM 148 147 [15, 13], pM 149 16 148 true [16], pM 150 6 148 true [16], oG 151 (.seq false (.t 149) (.t 150)) 148 true [17, 18, 16], oN 152 (.pick (.t 148) (.t 151) (.c (.bool false))) [16, 19], oM 153 152 [20, 16], oG 154 (.ld true 3 (.t 14)) 153 true [21], oG 155 (.ld true 3 (.t 18)) 153 true [21], oG 156 (.call 29 [(.t 154), (.t 155)]) 153 true [22, 23, 21, 21], oG 157 (.bin .eql (.t 156) (.c (.int .i64 7))) 153 true [24, 21], oN 158 (.pick (.t 153) (.t 157) (.c (.bool false))) [21, 25], oM 159 158 [26, 24], oG 160 (.ld true 3 (.t 18)) 159 true [27], oG 161 (.ld true 3 (.t 14)) 159 true [27], oG 162 (.call 29 [(.t 160), (.t 161)]) 159 true [28, 29, 27, 27], oG 163 (.bin .eql (.t 162) (.c (.int .i64 0))) 159 true [30, 27], oN 164 (.pick (.t 159) (.t 163) (.c (.bool false))) [27, 31], oM 0 164 [32, 30, 0, 1, 2, 3, 4, 5, 6, 7, 8, 9, 10, 11, 12, 13, 14, 15, 16, 17, 18, 19, 20, 21, 22, 23, 24, 25, 26, 27, 28, 29, 30, 31, 32]] false) .ret)))))))))))))))))
theorem mcOkv8 : (match Tryz.f8.body with | some c => Q2 Tryz.prog 165 c | none => none) = some mcv8 := by kernel_rfl
set_option maxHeartbeats 4000000 in
theorem vc8  : FC Tryz.prog 8 [] [] (.bool true) [] false := by
  refine Qs (nt := 165) Tryz.func8 rfl rfl mcOkv8 (nL rfl) ?_
  delta mcv8
  refine Qb (Qc (Qe rfl rfl (Qa fun _ => Qd (Qb (Qc (XN [] rfl rfl vc39 .nil .nil rfl rfl rfl ?_))))))
  rw [exL_eq]
  refine Qe rfl rfl (Qa fun _ => Qd (Qb (Qb (Q8 Xr (Qe rfl rfl (Qq rfl rfl (Qz rfl rfl rfl rfl (by decide) (Qf 2 rfl ?_))))))))
  refine Qt (f := cLf) (xs := eLs) (y := eL 1) rfl rfl rfl (by decide) rfl (QR (cs := cLf (eL 1)) rfl rfl (nL rfl) rfl (Qi [] rfl rfl (vc40 [115] [2] ⟨b8_c, by decide⟩ ⟨b8_c, by decide⟩) (.cons (Qg rfl) (.cons (Qg rfl) (.nil))) rfl (QU rfl rfl (rs_aeqx (r := false) (scs (eL 1)) (scs (eL 1)) rfl rfl rfl rfl rfl rfl rfl (by simp) (QM rfl rfl rfl (Qa ⟨by kernel_rfl, fun _ => ?_⟩))))))
  refine Qd (Qh rfl (fun h => by cases h) (fun _ => ?_))
  refine Qn (Qd (Qb (Qc (QF rfl rfl rfl (Qa fun _ => Qd (Qb (Qb (Qc ?_))))))))
  refine Qe rfl rfl (Qa fun _ => Qd (Qm ?_))
  refine QC (α := Nat) (fun k => 3 - k) (fun k => [(1, .rs 5 (eLs.map cLf)), (2, .ptr 2 0 0), (31, iv (((k) : Nat) : Int))]) (fun k => [(2, .cells 76 3 [eAr (k)] true)]) (fun k => k ≤ 3) 0 (by omega)
    (Qj (.cs (.cs (.cs (.nil)))) (.keep (rfl) rfl (.nil)) (fun i h => by cases h)) ?_
  intro k hk
  refine Qb (Qc (QJ rfl rfl rfl (Qa fun _ => Qd (Qb (Qh rfl (fun h32 => ?_) (fun h32 => ?_))))))
  · replace h32 := of_decide_eq_true h32
    refine Qn (Qd (Qb (Qm (Qb (Qc ?_)))))
    obtain rfl | rfl | rfl : k = 0 ∨ k = 1 ∨ k = 2 := by omega
    · skip
      refine Qf 2 rfl (Qa fun _ => Qd (Qc (Qf 3 rfl (Qt (f := cLf) (xs := eLs) (y := eL 0) rfl rfl rfl (by decide) rfl (QR (cs := cLf (eL 0)) rfl rfl (nL rfl) rfl (Qi [] rfl rfl (vc42 (eL 0) (eL_ok 0)) (.cons (Qg rfl) (.nil)) rfl (Qi [] rfl rfl (vc41 (X7 (eL 0)) (text_ok 0)) (.cons (Qg rfl) (.nil)) rfl (Q7 rfl rfl rfl (by decide) (by decide) ?_))))))))
      refine Q0 rfl rfl rfl rfl rfl rfl rfl (nL rfl) rfl rfl (Qa fun _ => QI (Qd (Qc (Qx rfl rfl rfl (by omega) (Qe rfl rfl (Qa fun _ => Qd ?_))))))
      exact ⟨0 + 1, by omega, by omega, Qj (.cs (.cs (.cs (.nil)))) (.keep (rfl) rfl (.nil)) (fun i h => by cases h)⟩
    · skip
      refine Qf 2 rfl (Qa fun _ => Qd (Qc (Qf 3 rfl (Qt (f := cLf) (xs := eLs) (y := eL 1) rfl rfl rfl (by decide) rfl (QR (cs := cLf (eL 1)) rfl rfl (nL rfl) rfl (Qi [] rfl rfl (vc42 (eL 1) (eL_ok 1)) (.cons (Qg rfl) (.nil)) rfl (Qi [] rfl rfl (vc41 (X7 (eL 1)) (text_ok 1)) (.cons (Qg rfl) (.nil)) rfl (Q7 rfl rfl rfl (by decide) (by decide) ?_))))))))
      refine Q0 rfl rfl rfl rfl rfl rfl rfl (nL rfl) rfl rfl (Qa fun _ => QI (Qd (Qc (Qx rfl rfl rfl (by omega) (Qe rfl rfl (Qa fun _ => Qd ?_))))))
      exact ⟨1 + 1, by omega, by omega, Qj (.cs (.cs (.cs (.nil)))) (.keep (rfl) rfl (.nil)) (fun i h => by cases h)⟩
    · skip
      refine Qf 2 rfl (Qa fun _ => Qd (Qc (Qf 3 rfl (Qt (f := cLf) (xs := eLs) (y := eL 2) rfl rfl rfl (by decide) rfl (QR (cs := cLf (eL 2)) rfl rfl (nL rfl) rfl (Qi [] rfl rfl (vc42 (eL 2) (eL_ok 2)) (.cons (Qg rfl) (.nil)) rfl (Qi [] rfl rfl (vc41 (X7 (eL 2)) (text_ok 2)) (.cons (Qg rfl) (.nil)) rfl (Q7 rfl rfl rfl (by decide) (by decide) ?_))))))))
      refine Q0 rfl rfl rfl rfl rfl rfl rfl (nL rfl) rfl rfl (Qa fun _ => QI (Qd (Qc (Qx rfl rfl rfl (by omega) (Qe rfl rfl (Qa fun _ => Qd ?_))))))
      exact ⟨2 + 1, by omega, by omega, Qj (.cs (.cs (.cs (.nil)))) (.keep (rfl) rfl (.nil)) (fun i h => by cases h)⟩
  · replace h32 := of_decide_eq_false h32
    refine Q3 (QB (QB (QA (Qd (Qb ?_)))))
    obtain rfl : k = 3 := by omega
    refine Q8 Xr (Q7 rfl rfl rfl (by decide) (by decide) (QY rfl rfl rfl rfl rfl (Q7 rfl rfl rfl (by decide) (by decide) (QY rfl rfl rfl rfl rfl (Qi [] rfl rfl (vc43 (eD 0) (eD 1) (leafD_ok _) (leafD_ok _)) (.cons (Qg rfl) (.cons (Qg rfl) (.nil))) rfl (Q7 rfl rfl rfl (by decide) (by decide) (QY rfl rfl rfl rfl rfl (Qi [] rfl rfl (vc44) (.nil) rfl (Qi [] rfl rfl (vc43 (eD 2) missS (leafD_ok _) ⟨(Jb _).1, by rw [show missS.length = 8 from (Jb _).2]; decide⟩) (.cons (Qg rfl) (.cons (Qg rfl) (.nil))) rfl ?_)))))))))
    refine Qf 2 rfl (Qa ⟨by kernel_rfl, fun _ => ?_⟩)
    refine Qd (Qb (Qc (Qf 2 rfl (Qi [] rfl rfl (vc43 eLow Jz (JL _ _) (JL _ _)) (.cons (Qg rfl) (.cons (Qg rfl) (.nil))) rfl (Qe rfl rfl (Qa fun _ => Qd (Qb (Qc ?_))))))))
    refine Qe rfl rfl (Qt (f := cLf) (xs := eLs) (y := eL 1) rfl rfl rfl (by decide) rfl (QR (cs := cLf (eL 1)) rfl rfl (nL rfl) rfl (Qi [] rfl rfl (vc42 (eL 1) (eL_ok 1)) (.cons (Qg rfl) (.nil)) rfl (Qi [] rfl rfl (vc40 [115] [2] ⟨b8_c, by decide⟩ ⟨b8_c, by decide⟩) (.cons (Qg rfl) (.cons (Qg rfl) (.nil))) rfl (XF (c := [8, 2, 4, 2, 2, 16] ++ XH [115] [2]) rfl rfl rfl (by rw [show (XH [115] [2]).length = 8 from (Jb _).2]; decide) rfl (rs_seq (r := true) rfl rfl rfl (text_ok 1).1 (b8_app (fun x hx => by simp only [List.mem_cons, List.not_mem_nil, or_false] at hx; rcases hx with rfl | rfl | rfl | rfl | rfl | rfl <;> decide) (mark_ok _ _).1) (by rw [decide_eq_true eText]; rfl) (Qf 2 rfl (Qi [] rfl rfl (vc19 eLs ⟨by decide, eLs_ok⟩) (.cons (Qg rfl) (.nil)) rfl ?_))))))))
    rw [eRootF]
    refine Qe rfl rfl (rs_seq (r := true) rfl rfl rfl (JL _ _).1 (JL _ _).1 (by rw [decide_eq_true (show eRoot = Ja eLow Jz from rfl)]; rfl) (Qf 3 rfl (Qv (l := (([1] : List Int)).flatMap civ) (els := (([1] : List Int)).map civ) (fl := true) rfl (by kernel_rfl) rfl rfl (by kernel_rfl) (by kernel_rfl) (Q7 rfl rfl rfl (by decide) (by decide) (Qf 2 rfl (Qv (l := (([eD 0, Jz] : List (List Int))).flatMap cS) (els := (([eD 0, Jz] : List (List Int))).map cS) (fl := true) rfl (by kernel_rfl) rfl rfl (by kernel_rfl) (by kernel_rfl) (Qi [70, 74] rfl rfl (vc45 eLs (by decide) eLs_ok [1] (by decide) [eD 0, Jz] (fun d hd => (eSh_ok.b d hd).1)) (.cons (Qg rfl) (.cons (Xk (f := civ) (xs := [1]) (by simp) rfl rfl) (.cons (Xk (f := cS) (xs := [eD 0, Jz]) (by simp) rfl rfl) (.nil)))) rfl ?_)))))))
    rw [eS1]
    refine Qf 3 rfl (Qv (l := (([2] : List Int)).flatMap civ) (els := (([2] : List Int)).map civ) (fl := true) rfl (by kernel_rfl) rfl rfl (by kernel_rfl) (by kernel_rfl) (Qe rfl rfl (Qv (l := (([eLow] : List (List Int))).flatMap cS) (els := (([eLow] : List (List Int))).map cS) (fl := true) rfl (by kernel_rfl) rfl rfl (by kernel_rfl) (by kernel_rfl) (Qi [79, 81] rfl rfl (vc45 eLs (by decide) eLs_ok [2] (by decide) [eLow] (fun d hd => by rw [List.mem_singleton.1 hd]; exact (JL _ _).1)) (.cons (Qg rfl) (.cons (Xk (f := civ) (xs := [2]) (by simp) rfl rfl) (.cons (Xk (f := cS) (xs := [eLow]) (by simp) rfl rfl) (.nil)))) rfl ?_))))
    rw [eS2]
    refine Qf 4 rfl (Qv (l := (([eRoot] : List (List Int))).flatMap cS) (els := (([eRoot] : List (List Int))).map cS) (fl := true) rfl (by kernel_rfl) rfl rfl (by kernel_rfl) (by kernel_rfl) (Qi [87] rfl rfl (vc45 eLs (by decide) eLs_ok [] (by decide) [eRoot] (fun d hd => by rw [List.mem_singleton.1 hd]; exact (JL _ _).1)) (.cons (Qg rfl) (.cons (hv_nils) (.cons (Xk (f := cS) (xs := [eRoot]) (by simp) rfl rfl) (.nil)))) rfl ?_))
    rw [eS3]
    refine Qf 3 rfl (Qv (l := (([0, 1, 2] : List Int)).flatMap civ) (els := (([0, 1, 2] : List Int)).map civ) (fl := true) rfl (by kernel_rfl) rfl rfl (by kernel_rfl) (by kernel_rfl) (Qi [92] rfl rfl (vc45 eLs (by decide) eLs_ok [0, 1, 2] (by decide) [] (fun d hd => by cases hd)) (.cons (Qg rfl) (.cons (Xk (f := civ) (xs := [0, 1, 2]) (by simp) rfl rfl) (.cons (hv_nils) (.nil)))) rfl ?_))
    rw [eS4]
    refine Qf 2 rfl (Qa fun _ => Qd (Qb (Qc (Qe rfl rfl (Qv (l := (([3] : List Int)).flatMap civ) (els := (([3] : List Int)).map civ) (fl := true) rfl (by kernel_rfl) rfl rfl (by kernel_rfl) (by kernel_rfl) (Qi [97] rfl rfl (vc22 eLs (by decide) eLs_ok [3] (by decide)) (.cons (Qg rfl) (.cons (Xk (f := civ) (xs := [3]) (by simp) rfl rfl) (.nil))) rfl ?_))))))
    rw [eE3]
    refine Qf 4 rfl (Q0 rfl rfl rfl rfl rfl rfl rfl (nL rfl) rfl rfl (Qe rfl rfl (Qa fun _ => Qd (Qb (Qc (Qe rfl rfl (Qv (l := (([1, 1] : List Int)).flatMap civ) (els := (([1, 1] : List Int)).map civ) (fl := true) rfl (by kernel_rfl) rfl rfl (by kernel_rfl) (by kernel_rfl) (Qi [103] rfl rfl (vc22 eLs (by decide) eLs_ok [1, 1] (by decide)) (.cons (Qg rfl) (.cons (Xk (f := civ) (xs := [1, 1]) (by simp) rfl rfl) (.nil))) rfl ?_))))))))
    rw [eE11]
    refine Qf 4 rfl (Q0 rfl rfl rfl rfl rfl rfl rfl (nL rfl) rfl rfl (Qe rfl rfl (Qa fun _ => Qd (Qb (Qc (Qi [] rfl rfl (vc22 [] (by decide) (fun x hx => by cases hx) [] (by decide)) (.cons (hv_nils) (.cons (hv_nils) (.nil))) rfl ?_))))))
    rw [eE0]
    refine Qf 4 rfl (Q0 rfl rfl rfl rfl rfl rfl rfl (nL rfl) rfl rfl (Qe rfl rfl (Qa fun _ => Qd (Qb (Qc (Qe rfl rfl (Qv (l := (([1] : List Int)).flatMap civ) (els := (([1] : List Int)).map civ) (fl := true) rfl (by kernel_rfl) rfl rfl (by kernel_rfl) (by kernel_rfl) (Qi [113] rfl rfl (vc22 eLs (by decide) eLs_ok [1] (by decide)) (.cons (Qg rfl) (.cons (Xk (f := civ) (xs := [1]) (by simp) rfl rfl) (.nil))) rfl ?_))))))))
    rw [eE1, eG1]
    refine Qf 4 rfl (Q0 rfl rfl rfl rfl rfl rfl rfl (nL rfl) rfl rfl (Qe rfl rfl (Qa fun _ => Qd (Qb (Qc (Qo rfl rfl rfl rfl (nL rfl) rfl (Qi [] rfl rfl (vc27 3 [eL 1] [eD 0, Jz] eSh_ok) (.cons (Qg rfl) (.nil)) rfl ?_)))))))
    rw [eR1]
    refine Qf 5 rfl (Qa fun _ => Qd (Qb (Xm (F0 := [(1, .rs 5 (eLs.map cLf)), (6, .str (Qu eRoot)), (7, .bool true), (9, iv 5), (11, iv 7), (13, iv 2), (14, .ptr 14 0 0), (16, .str (Qu eRoot)), (17, .bool true)]) (H0 := [(14, .cells 55 3 [cSh eSh] true)]) (Qj (.cs (.cs (.cs (.cs (.cs (.cs (.cs (.cs (.cs (.nil)))))))))) (.keep (rfl) rfl (.nil)) (fun i h => by cases h)) (Qc (Qo rfl rfl rfl rfl (nL rfl) rfl (Qi [] rfl rfl (vc31 3 [eL 1] [eD 0, Jz] (by decide) (by decide)) (.cons (Qg rfl) .nil) rfl (QF rfl rfl rfl (Q0 rfl rfl rfl rfl rfl rfl rfl (nL rfl) rfl rfl ?_))))))))
    refine Qa fun _ => Qd (Qb (Qb (Qc (Qf 2 rfl (Xu rfl rfl (Qz rfl rfl rfl rfl (by decide) (Qa fun _ => Qd ?_)))))))
    refine Qh rfl (fun h => by cases h) (fun _ => ?_)
    refine Qn (Qd (Qb (Qc (Qf 2 rfl (Jw rfl rfl rfl rfl (by decide) (by decide) (Q9 rfl rfl (Q0 rfl rfl rfl rfl rfl rfl rfl (nL rfl) rfl rfl (Qa fun _ => Qd ?_))))))))
    refine Qb (Qc (Qf 3 rfl (QT rfl rfl rfl rfl rfl (Qf 3 rfl (QT rfl rfl rfl rfl rfl (Qf 3 rfl (QT rfl rfl rfl rfl rfl (Qf 7 rfl (rs_seq (r := true) rfl rfl rfl (JL _ _).1 (JL _ _).1 (by simp) ?_)))))))))
    refine Qf 2 rfl (Qo rfl rfl rfl rfl (nL rfl) rfl (Qo rfl rfl rfl rfl (nL rfl) rfl (Qi [8, 12] rfl rfl (vc29 3 [eL 1] [eD 0, Jz] eSh_ok 3 [eN] [eD 0, Jz] eShN_ok) (.cons (Qg rfl) (.cons (hv_agg (.cons (Qg rfl) (.cons (Xk (f := cLf) (xs := [eN]) (by simp) rfl rfl) (.cons (Xk (f := cS) (xs := [eD 0, Jz]) (by simp) rfl rfl) .nil)))) (.nil))) rfl ?_)))
    rw [eC1]
    refine QT rfl rfl rfl rfl rfl (Qf 2 rfl (Qo rfl rfl rfl rfl (nL rfl) rfl (Qo rfl rfl rfl rfl (nL rfl) rfl (Qi [8, 12] rfl rfl (vc29 3 [eN] [eD 0, Jz] eShN_ok 3 [eL 1] [eD 0, Jz] eSh_ok) (.cons (hv_agg (.cons (Qg rfl) (.cons (Xk (f := cLf) (xs := [eN]) (by simp) rfl rfl) (.cons (Xk (f := cS) (xs := [eD 0, Jz]) (by simp) rfl rfl) .nil)))) (.cons (Qg rfl) (.nil))) rfl ?_))))
    rw [eC2]
    refine QT rfl rfl rfl rfl rfl (Qf 2 rfl (Qa fun _ => Qd (Ql ?_)))
    exact Qk rfl rfl rfl (.inr rfl)
end Go.Proofs.YthfhaoogcpfboaaGreat

/-! The reference's way through the tree of a Shown: the same root. -/
namespace Go.Proofs.YthfhaoogcpfboaaGreat
open Go.RowKit
set_option linter.unusedVariables false
def lfAt (lv : List Lf) (b : Nat) : Lf := (lv.find? fun x => decide (x.ix = (b : Int))).getD dfL
/-- The digest of a subtree, and how many hidden ones are used then. -/
def dgR (z : Int) (lv : List Lf) (hd : List (List Int)) : Nat → Nat → Nat → List Int × Nat
  | 0, b, u => if z ≤ (b : Int) then (Q4 (ofK []) 0 b, u) else if (QN lv).any (XP (b, 2 ^ 0)) = false then (hd.getD u [], u + 1) else (Jr (X7 (lfAt lv b)), u)
  | d + 1, b, u => if z ≤ (b : Int) then (Q4 (ofK []) (d + 1) b, u) else if (QN lv).any (XP (b, 2 ^ (d + 1))) = false then (hd.getD u [], u + 1) else
    (Ja (dgR z lv hd d b u).1 (dgR z lv hd d (b + 2 ^ d) (dgR z lv hd d b u).2).1, (dgR z lv hd d (b + 2 ^ d) (dgR z lv hd d b u).2).2)
section
variable {z : Int} {lv : List Lf} {hd : List (List Int)}
theorem dgR_1 {d b u : Nat} (h : z ≤ (b : Int)) : dgR z lv hd d b u = (Q4 (ofK []) d b, u) := by cases d <;> simp only [dgR, if_pos h]
theorem dgR_2 {d b u : Nat} (h : ¬ z ≤ (b : Int)) (h2 : (QN lv).any (XP (b, 2 ^ d)) = false) : dgR z lv hd d b u = (hd.getD u [], u + 1) := by cases d <;> simp only [dgR, if_neg h, if_pos h2]
theorem dgR_3 {b u : Nat} (h : ¬ z ≤ (b : Int)) (h2 : (QN lv).any (XP (b, 2 ^ 0)) = true) : dgR z lv hd 0 b u = (Jr (X7 (lfAt lv b)), u) := by simp only [dgR, if_neg h]; rw [if_neg (by rw [h2]; decide)]
theorem dgR_4 {d b u : Nat} (h : ¬ z ≤ (b : Int)) (h2 : (QN lv).any (XP (b, 2 ^ (d + 1))) = true) : dgR z lv hd (d + 1) b u = (Ja (dgR z lv hd d b u).1 (dgR z lv hd d (b + 2 ^ d) (dgR z lv hd d b u).2).1, (dgR z lv hd d (b + 2 ^ d) (dgR z lv hd d b u).2).2) := by
  conv => lhs; unfold dgR
  rw [if_neg h, if_neg (by rw [h2]; decide)]
theorem dgR_u (h0 : 0 ≤ z) : ∀ d b u, (dgR z lv hd d b u).2 = u + (QO z.toNat (QN lv) d b).length := by
  intro d
  induction d with
  | zero =>
    intro b u
    by_cases h : z ≤ (b : Int)
    · rw [dgR_1 h, hid_0 (by omega)]; rfl
    · cases h2 : (QN lv).any (XP (b, 2 ^ 0)) with
      | false => rw [dgR_2 h h2, hid_1 (by omega) h2]; rfl
      | true => rw [dgR_3 h h2, hid_2 (by omega) h2]; rfl
  | succ d ih =>
    intro b u
    by_cases h : z ≤ (b : Int)
    · rw [dgR_1 h, hid_0 (by omega)]; rfl
    · cases h2 : (QN lv).any (XP (b, 2 ^ (d + 1))) with
      | false => rw [dgR_2 h h2, hid_1 (by omega) h2]; rfl
      | true =>
        rw [dgR_4 h h2, hid_3 (by omega) h2, List.length_append]
        show (dgR z lv hd d (b + 2 ^ d) (dgR z lv hd d b u).2).2 = _
        rw [ih, ih]; omega
theorem dgR_8 (hh : ∀ d ∈ hd, B8 d ∧ d.length ≤ LIM) : ∀ d b u, B8 (dgR z lv hd d b u).1 ∧ (dgR z lv hd d b u).1.length ≤ LIM := by
  have hg : ∀ u, B8 (hd.getD u []) ∧ (hd.getD u []).length ≤ LIM := fun u => by
    by_cases hu : u < hd.length
    · obtain ⟨x, hx, hm⟩ := Qy (L := hd) (k := u) hu
      rw [getD_at hx]; exact hh x hm
    · rw [List.getD_eq_getElem?_getD, List.getElem?_eq_none (by omega)]; exact ⟨fun x hx => (by cases hx), Nat.zero_le _⟩
  have hl : ∀ l, B8 (digB l) ∧ (digB l).length ≤ LIM := fun l => ⟨(Jb l).1, by rw [(Jb l).2]; decide⟩
  intro d
  cases d with
  | zero =>
    intro b u
    by_cases h : z ≤ (b : Int)
    · rw [dgR_1 h]; exact (ofK_ok []).tree _ _
    · cases h2 : (QN lv).any (XP (b, 2 ^ 0)) with
      | false => rw [dgR_2 h h2]; exact hg u
      | true => rw [dgR_3 h h2]; exact hl _
  | succ d =>
    intro b u
    by_cases h : z ≤ (b : Int)
    · rw [dgR_1 h]; exact (ofK_ok []).tree _ _
    · cases h2 : (QN lv).any (XP (b, 2 ^ (d + 1))) with
      | false => rw [dgR_2 h h2]; exact hg u
      | true => rw [dgR_4 h h2]; exact hl _
theorem incF_uniq {w : List Int} : ∀ {p : Int} {l : List Lf}, incF z p (QN l) = true → ∀ x ∈ l, ∀ y ∈ l, x.ix = y.ix → x = y
  | p, [], _, x, hx, _, _, _ => by cases hx
  | p, a :: l, h, x, hx, y, hy, e => by
    have h' : incF z p (a.ix :: QN l) = true := h
    simp only [incF, Bool.and_eq_true, decide_eq_true_eq] at h'
    have hb := incF_bd h'.2
    have hbd : ∀ t ∈ l, a.ix < t.ix := fun t ht => (hb t.ix (List.mem_map_of_mem ht)).2.2
    rcases List.mem_cons.1 hx with h1 | h1
    · rcases List.mem_cons.1 hy with h2 | h2
      · rw [h1, h2]
      · have := hbd y h2; rw [h1] at e; omega
    · rcases List.mem_cons.1 hy with h2 | h2
      · have := hbd x h1; rw [h2] at e; omega
      · exact incF_uniq (w := w) h'.2 x h1 y h2 e
theorem fill_hit {b : Nat} {x : Lf} : ∀ (lv l : List Lf), b < l.length → (∀ y ∈ lv, y.ix.toNat = b → y = x) → (l[b]? = some x ∨ ∃ y ∈ lv, y.ix.toNat = b) → (lv.foldl (fun l x => l.set x.ix.toNat x) l)[b]? = some x
  | [], l, _, _, h => h.elim id fun ⟨y, hy, _⟩ => by cases hy
  | a :: lv, l, hb, h1, h3 => by
    rw [List.foldl_cons]
    refine fill_hit lv _ (by rw [List.length_set]; exact hb) (fun y hy => h1 y (List.mem_cons_of_mem _ hy)) ?_
    by_cases ha : a.ix.toNat = b
    · left
      have := h1 a (List.mem_cons_self ..) ha
      subst this
      subst ha
      rw [List.getElem?_set_self hb]
    · rw [List.getElem?_set_ne ha]
      rcases h3 with h3 | ⟨y, hy, e⟩
      · exact .inl h3
      · rcases List.mem_cons.1 hy with rfl | hy
        · exact absurd e ha
        · exact .inr ⟨y, hy, e⟩
theorem lfAt_mem {b : Nat} {x : Lf} (hu : ∀ x ∈ lv, ∀ y ∈ lv, x.ix = y.ix → x = y) (hx : x ∈ lv) (hb : x.ix = (b : Int)) : lfAt lv b = x := by
  unfold lfAt
  cases hf : lv.find? fun x => decide (x.ix = (b : Int)) with
  | none => exact absurd (List.find?_eq_none.1 hf x hx) (by simp [hb])
  | some y =>
    have h1 := List.find?_some hf
    have h2 := List.mem_of_find?_eq_some hf
    exact hu y h2 x hx (by rw [of_decide_eq_true h1, hb])
theorem any_ix {b : Nat} (h : (QN lv).any (XP (b, 2 ^ 0)) = true) : ∃ x ∈ lv, x.ix = (b : Int) := by
  obtain ⟨k, hk, hkb⟩ := List.any_eq_true.1 h
  obtain ⟨x, hx, rfl⟩ := List.mem_map.1 hk
  exact ⟨x, hx, inSp1 hkb⟩
theorem hidS_in {n : Nat} {w : List Int} {d b : Nat} {s : Nat × Nat} (h : s ∈ QO n w d b) : b ≤ s.1 ∧ s.1 < b + 2 ^ d ∧ s.1 < n := by
  obtain ⟨c, e, rfl, _, h1, h2, h3⟩ := hidS_mem h
  have := Nat.two_pow_pos e
  exact ⟨h1, by dsimp only; omega, h3⟩
theorem idxS_pre {b m : Nat} : ∀ (pre suf : List (Nat × Nat)) (k : Nat), (∀ s ∈ pre, s ≠ (b, m)) → Xw (spEq b m) (pre ++ (b, m) :: suf) k = ((k + pre.length : Nat) : Int)
  | [], suf, k, _ => by
    show Xw (spEq b m) ((b, m) :: suf) k = _
    unfold Xw
    rw [if_pos (by simp [spEq])]; rfl
  | s :: pre, suf, k, h => by
    show Xw (spEq b m) (s :: (pre ++ (b, m) :: suf)) k = _
    unfold Xw
    rw [if_neg (by simp [spEq]; exact h s (List.mem_cons_self ..)), idxS_pre pre suf (k + 1) fun t ht => h t (List.mem_cons_of_mem _ ht), List.length_cons]
    congr 1; omega
/-- The reference's way is the program's. -/
theorem dgR_tree (hz : 1 ≤ z) (hinc : incF z (-1) (QN lv) = true) {sp : List (Nat × Nat)} (hn : sp.length = hd.length) (hfree : ∀ s ∈ sp, (QN lv).any (XP s) = false ∧ s.1 < z.toNat) :
    ∀ d b (pre suf : List (Nat × Nat)), sp = pre ++ QO z.toNat (QN lv) d b ++ suf → (∀ s ∈ pre, s.1 < b) → (dgR z lv hd d b pre.length).1 = Q4 (knR sp hd (Jn z.toNat lv)) d b := by
  have out : ∀ d b, z.toNat ≤ b → Q4 (ofK []) d b = Q4 (knR sp hd (Jn z.toNat lv)) d b := fun d b hb => treeD_congr d b fun c e _ hc _ => by
    rw [knR_miss fun hm => by have := (hfree _ hm).2; dsimp only at this; omega]
    exact ofK_at (by rw [List.getElem?_eq_none (by simp), List.getElem?_eq_none (by rw [fill_len]; omega)])
  have hit : ∀ d b (pre suf : List (Nat × Nat)), sp = pre ++ [(b, 2 ^ d)] ++ suf → (∀ s ∈ pre, s.1 < b) → hd.getD pre.length [] = Q4 (knR sp hd (Jn z.toNat lv)) d b := fun d b pre suf hs hp => by
    have hidx : Xw (spEq b (2 ^ d)) sp 0 = ((pre.length : Nat) : Int) := by
      have hi := idxS_pre pre suf 0 (b := b) (m := 2 ^ d) fun s hs e => by have := hp s hs; rw [e] at this; dsimp only at this; omega
      rw [hs, List.append_assoc]
      show Xw _ (pre ++ (b, 2 ^ d) :: suf) 0 = _
      rw [hi, Nat.zero_add]
    have hlt : pre.length < hd.length := by rw [← hn, hs]; simp
    obtain ⟨x, hx, _⟩ := Qy (L := hd) (k := pre.length) hlt
    have hk : knR sp hd (Jn z.toNat lv) b (2 ^ d) = some x := knR_t (by rw [hidx]; omega) (by rw [hidx, Int.toNat_natCast]; exact hx)
    rw [treeD_t (by rw [hk]; rfl), hk, getD_at hx]; rfl
  intro d
  induction d with
  | zero =>
    intro b pre suf hs hp
    by_cases h : z ≤ (b : Int)
    · rw [dgR_1 h]; exact out 0 b (by omega)
    · cases h2 : (QN lv).any (XP (b, 2 ^ 0)) with
      | false => rw [dgR_2 h h2]; rw [hid_1 (by omega) h2] at hs; exact hit 0 b pre suf hs hp
      | true =>
        rw [dgR_3 h h2]
        have hm : (b, 1) ∉ sp := fun hm => by have := (hfree _ hm).1; rw [show ((b, 1) : Nat × Nat) = (b, 2 ^ 0) from rfl, h2] at this; cases this
        show Jr (X7 (lfAt lv b)) = ((knR sp hd (Jn z.toNat lv) b 1).getD [])
        rw [knR_miss hm]
        obtain ⟨x, hx, hxb⟩ := any_ix h2
        have hu := incF_uniq (w := []) hinc
        rw [lfAt_mem hu hx hxb]
        have hfill : (Jn z.toNat lv)[b]? = some x := fill_hit lv _ (by simp; omega) (fun y hy e => hu y hy x hx (by
          have := incF_bd hinc y.ix (List.mem_map_of_mem hy)
          rw [hxb]; omega)) (.inr ⟨x, hx, by rw [hxb]; rfl⟩)
        rw [ofK_3 (by decide) hfill]; rfl
  | succ d ih =>
    intro b pre suf hs hp
    by_cases h : z ≤ (b : Int)
    · rw [dgR_1 h]; exact out (d + 1) b (by omega)
    · cases h2 : (QN lv).any (XP (b, 2 ^ (d + 1))) with
      | false => rw [dgR_2 h h2]; rw [hid_1 (by omega) h2] at hs; exact hit (d + 1) b pre suf hs hp
      | true =>
        rw [dgR_4 h h2, hid_3 (by omega) h2] at *
        have hm : (b, 2 ^ (d + 1)) ∉ sp := fun hm => by have := (hfree _ hm).1; rw [h2] at this; cases this
        rw [treeD_f (by rw [knR_miss hm, ofK_one]; rfl)]
        have hpos := Nat.two_pow_pos d
        show Ja _ _ = _
        rw [ih b pre (QO z.toNat (QN lv) d (b + 2 ^ d) ++ suf) (by rw [hs]; simp) hp, dgR_u (by omega)]
        have := ih (b + 2 ^ d) (pre ++ QO z.toNat (QN lv) d b) suf (by rw [hs]; simp) fun s hs => by
          rcases List.mem_append.1 hs with hs | hs
          · have := hp s hs; omega
          · exact (hidS_in hs).2.1
        rw [List.length_append] at this
        rw [this]
end
/-- The reference's root of a Shown that has the form. -/
theorem dgR_root {z : Int} {lv : List Lf} {hd : List (List Int)} {sp : List (Nat × Nat)} (h : fmS z lv hd = some sp) : some (dgR z lv hd (lg z.toNat) 0 0).1 = Jx z lv hd := by
  obtain ⟨hz, hinc, hsp, hn, _⟩ := fm_parts h
  unfold Jx
  rw [h, Option.map_some]
  congr 1
  have := dgR_tree (hd := hd) hz.1 hinc hn (fun s hs => by rw [hsp] at hs; exact ⟨hidS_free hs, (hidS_in hs).2.2⟩) (lg z.toNat) 0 [] [] (by rw [hsp]; simp [Xc]) fun s hs => by cases hs
  exact this
end Go.Proofs.YthfhaoogcpfboaaGreat

/-! Walks: VX. -/
namespace Go.Proofs.YthfhaoogcpfboaaGreat
open Go.RowKit
set_option maxRecDepth 100000
set_option linter.unusedVariables false
theorem src_full {H : Hp} {i e z n : Nat} {els : List (List AV)} {fl : Bool} (hg : get H i = some (.cells e z els fl)) (hn : els.length = n) : srcOf H z (.sl i 0 n) = some ([i], els) := by
  simp only [srcOf, hg]
  rw [if_pos ⟨trivial, by omega⟩, List.drop_zero, List.take_of_length_le (by omega)]
theorem w_step {n j : Nat} (hn : n ≤ 16) (hj : j ≤ 5) (h : ((2 ^ j : Nat) : Int) < (n : Int)) : j + 1 ≤ lg n := by
  have : ∀ n : Fin 17, ∀ j : Fin 6, 2 ^ j.val < n.val → j.val + 1 ≤ lg n.val := by decide
  exact this ⟨n, by omega⟩ ⟨j, by omega⟩ (by simpa using (by exact_mod_cast h : 2 ^ j < n))
theorem w_end {n j : Nat} (hn : n ≤ 16) (hj : j ≤ lg n) (h : ¬ ((2 ^ j : Nat) : Int) < (n : Int)) : 2 ^ j = wS n := by
  have h5 : lg n ≤ 5 := by have : ∀ n : Fin 17, lg n.val ≤ 5 := by decide
                           exact this ⟨n, by omega⟩
  have : ∀ n : Fin 17, ∀ j : Fin 6, j.val ≤ lg n.val → n.val ≤ 2 ^ j.val → 2 ^ j.val = wS n.val := by decide
  exact this ⟨n, by omega⟩ ⟨j, by omega⟩ hj (by have : ¬ 2 ^ j < n := fun q => h (by exact_mod_cast q); show n ≤ 2 ^ j; omega)
theorem w_dbl {j : Nat} (h : j ≤ 5) : W (2 * ((2 ^ j : Nat) : Int)) = ((2 ^ (j + 1) : Nat) : Int) := by
  have : ∀ j : Fin 6, W (2 * ((2 ^ j.val : Nat) : Int)) = ((2 ^ (j.val + 1) : Nat) : Int) := by decide +kernel
  exact this ⟨j, by omega⟩
theorem lg_5 {n : Nat} (hn : n ≤ 16) : lg n ≤ 4 := by
  have : ∀ n : Fin 17, lg n.val ≤ 4 := by decide
  exact this ⟨n, by omega⟩
theorem any_at {α : Type} {p : α → Bool} {l : List α} {k : Nat} {x : α} (h : l[k]? = some x) : (l.drop k).any p = (p x || (l.drop (k + 1)).any p) := by rw [drop_at h]; rfl
theorem find_at {p : Lf → Bool} {l : List Lf} {k : Nat} {x : Lf} (h : l[k]? = some x) : (l.drop k).find? p = if p x = true then some x else (l.drop (k + 1)).find? p := by
  rw [drop_at h, List.find?_cons]
  cases p x <;> rfl
theorem inSp_t {b m : Nat} {x : Int} (h1 : x ≥ (b : Int)) (h2 : x < ((b + m : Nat) : Int)) : XP (b, m) x = true := by
  simp only [XP, Bool.and_eq_true, decide_eq_true_eq]; exact ⟨h1, h2⟩
theorem inSp_f {b m : Nat} {x : Int} (h : ¬ (x ≥ (b : Int) ∧ x < ((b + m : Nat) : Int))) : XP (b, m) x = false := by
  simp only [XP, Bool.and_eq_false_iff, decide_eq_false_iff_not]; omega
theorem hidT_pow (ls : List Lf) {d b : Nat} (hd : d ≤ 6) : Xb ls (b, 2 ^ d) = Q4 (ofK ls) d b := by
  show Q4 (ofK ls) (lg (2 ^ d)) b = _
  rw [lg_pow hd]
def mcv71 : MC := (.seq (.reg [oN 2 (.mv (.c (.int .i64 0))) []] false) (.seq (.reg [oN 3 (.mv (.c (.int .i64 1))) []] false) (.seq (.block 0 (.loop (.seq (.seq (.reg [oM 4 3 [], oM 5 0 [], oN 6 (.bin .lss (.t 4) (.t 5)) [0, 1]] false) (.cond (.t 6) .skip (.exit 0))) (.block 1 (.reg [oM 7 3 [], oN 8 (.bin .mul (.c (.int .i64 2)) (.t 7)) [0], oM 3 8 [1, 0, 1]] false))))) (.seq (.reg [oM 9 3 [], oM 2 9 [0, 0]] false) .ret))))
theorem mcOkv71 : (match Tryz.f71.body with | some c => Q2 Tryz.prog 10 c | none => none) = some mcv71 := by kernel_rfl
theorem vc71 (n : Nat) (hn : n ≤ 16) : FC Tryz.prog 71 [iv (n : Int)] [] (iv ((wS n : Nat) : Int)) [] false := by
  have h4 := lg_5 hn
  refine Qs (nt := 10) Tryz.func71 rfl rfl mcOkv71 (nL rfl) ?_
  delta mcv71
  refine Qb (Qc (Qe rfl rfl (Qa fun _ => Qd (Qb (Qc (Qe rfl rfl (Qa fun _ => Qd ?_)))))))
  refine Qb (Qm ?_)
  refine QC (α := Nat) (fun j => 10 - j) (fun j => [(0, iv (n : Int)), (3, iv ((2 ^ (j) : Nat) : Int))]) (fun j => []) (fun j => j ≤ lg n) 0 (Nat.zero_le _)
    (Qj (.cs (.cs (.nil))) (.nil) (fun i h => by cases h)) ?_
  intro j hj
  refine Qb (Qb (Qc (Qf 3 rfl (Qa fun _ => Qd (Qh rfl (fun h6 => ?_) (fun h6 => ?_))))))
  · replace h6 := of_decide_eq_true h6
    refine Qn (Qd (Qm (Qc (Qe rfl rfl (Xe (c := ((2 ^ (j + 1) : Nat) : Int)) rfl rfl rfl (w_dbl (by omega)) (Qe rfl rfl (Qa fun _ => QI (Qd ?_))))))))
    have hj1 := w_step hn (by omega) h6
    exact ⟨j + 1, hj1, by omega, Qj (.cs (.cs (.nil))) (.nil) (fun i h => by cases h)⟩
  · replace h6 := of_decide_eq_false h6
    refine Q3 (QB (QB (QA (Qd (Qb (Qc (Qf 2 rfl (Qa fun _ => Qd ?_))))))))
    refine Ql ?_
    rw [← w_end hn hj h6]
    exact Qk rfl rfl rfl (.inr rfl)
def mcv120 : MC := (.seq (.reg [oN 6 (.mv (.c (.bool false))) []] false) (.seq (.seq (.reg [oN 7 (.mv (.c (.int .i64 0))) []] false) (.block 0 (.loop (.seq (.seq (.reg [oM 8 7 [], oM 9 0 [], oN 10 (.len (.t 9)) [1], oN 11 (.bin .lss (.t 8) (.t 10)) [0, 2]] false) (.cond (.t 11) .skip (.exit 0))) (.seq (.block 1 (.seq (.reg [oM 14 0 [], oM 15 7 [], oN 16 (.ixsl 1 (.t 14) (.t 15)) [0, 1], oD 17 1 16 [2], oM 18 1 [], oN 19 (.bin .geq (.t 17) (.t 18)) [3, 4], oM 20 19 [5], pM 21 0 20 true [6], pM 22 7 20 true [6], oG 23 (.ixsl 1 (.t 21) (.t 22)) 20 true [7, 8, 6], pD 24 1 23 20 true [9, 6], pM 25 1 20 true [6], pM 26 2 20 true [6], oG 27 (.bin .add (.t 25) (.t 26)) 20 true [11, 12, 6], oG 28 (.bin .lss (.t 24) (.t 27)) 20 true [10, 13, 6], oN 29 (.pick (.t 20) (.t 28) (.c (.bool false))) [6, 14]] false) (.cond (.t 29) (.seq (.reg [oN 6 (.mv (.c (.bool true))) []] false) .ret) .skip))) (.reg [oM 12 7 [], oN 13 (.bin .add (.t 12) (.c (.int .i64 1))) [0], oM 7 13 [1, 0, 1]] false)))))) (.seq (.reg [oN 6 (.mv (.c (.bool false))) []] false) .ret)))
theorem mcOkv120 : (match Tryz.f120.body with | some c => Q2 Tryz.prog 30 c | none => none) = some mcv120 := by kernel_rfl
theorem vc120 (w : List Int) (hw : w.length ≤ 1000000) (b m : Nat) (hb : b + m ≤ 1000000) : FC Tryz.prog 120 [.rs 1 (w.map civ), iv (b : Int), iv (m : Int)] [] (.bool (w.any (XP (b, m)))) [] false := by
  refine Qs (nt := 30) Tryz.func120 rfl rfl mcOkv120 (nL rfl) ?_
  delta mcv120
  refine Qb (Qc (Qe rfl rfl (Qa fun _ => Qd (Qb (Qb (Qc (Qe rfl rfl (Qa fun _ => ?_))))))))
  refine Qd (Qm ?_)
  refine QC (α := Nat) (fun k => w.length - k) (fun k => [(0, .rs 1 (w.map civ)), (1, iv (b : Int)), (2, iv (m : Int)), (7, iv (((k) : Nat) : Int))]) (fun k => []) (fun k => k ≤ w.length ∧ (w.drop k).any (XP (b, m)) = w.any (XP (b, m))) 0 (⟨by omega, rfl⟩)
    (Qj (.cs (.cs (.cs (.cs (.nil))))) (.nil) (fun i h => by cases h)) ?_
  rintro k ⟨hk, hinv⟩
  refine Qb (Qb (Qc (Qf 2 rfl (Qq rfl rfl (QJ rfl rfl rfl (Qa fun _ => Qd (Qh rfl (fun h11 => ?_) (fun h11 => ?_))))))))
  · replace h11 := of_decide_eq_true h11
    refine Qn (Qd (Qb (Qm (Qb (Qc (Qf 2 rfl ?_))))))
    obtain ⟨x, hxk, hxm⟩ := Qy (L := w) (k := k) (by omega)
    refine Qt (f := civ) (y := x) rfl rfl rfl (by omega) hxk (Qf 2 rfl (QE rfl rfl rfl rfl (fun h19 => ?_) (fun h19 => ?_)))
    · skip
      refine Qf 3 rfl (Qt (f := civ) (y := x) rfl rfl rfl (by omega) hxk (Qf 3 rfl (Xi (c := ((b + m : Nat) : Int)) rfl rfl rfl (addNW2 hb) (QE rfl rfl rfl rfl (fun h28 => ?_) (fun h28 => ?_)))))
      · skip
        refine QM rfl rfl rfl (Qa fun _ => Qd (Qh rfl (fun _ => ?_) (fun h => by cases h)))
        refine Qb (Qc (Qe rfl rfl (Qa fun _ => Qd (Ql (QL (Q1 (Q1 (QL ?_))))))))
        refine Q1 ?_
        rw [← hinv, any_at hxk, inSp_t h19 h28]
        exact Qk rfl rfl rfl (.inr rfl)
      · skip
        refine QM rfl rfl rfl (Qa fun _ => Qd (Qh rfl (fun h => by cases h) (fun _ => ?_)))
        refine Qn (QI (Qd (Qc (Qe rfl rfl (Qx rfl rfl rfl (by omega) (Qe rfl rfl (Qa fun _ => Qd ?_)))))))
        rw [any_at hxk, inSp_f (by exact fun h => h28 h.2), Bool.false_or] at hinv
        exact ⟨k + 1, ⟨by omega, hinv⟩, by omega, Qj (.cs (.cs (.cs (.cs (.nil))))) (.nil) (fun i h => by cases h)⟩
    · skip
      refine Qf 10 rfl (Qa fun _ => Qd (Qh rfl (fun h => by cases h) (fun _ => ?_)))
      refine Qn (QI (Qd (Qc (Qe rfl rfl (Qx rfl rfl rfl (by omega) (Qe rfl rfl (Qa fun _ => Qd ?_)))))))
      rw [any_at hxk, inSp_f (by exact fun h => h19 h.1), Bool.false_or] at hinv
      exact ⟨k + 1, ⟨by omega, hinv⟩, by omega, Qj (.cs (.cs (.cs (.cs (.nil))))) (.nil) (fun i h => by cases h)⟩
  · replace h11 := of_decide_eq_false h11
    refine Q3 (QB (QB (QA (Qd (Qb (Qc (Qe rfl rfl (Qa fun _ => Qd ?_))))))))
    refine Ql ?_
    rw [← hinv, List.drop_eq_nil_of_le (by omega)]
    exact Qk rfl rfl rfl (.inr rfl)
def mcv121 : MC := (.seq (.reg [oN 6 (.mv (.c (.str (Qu [])))) []] false) (.seq (.seq (.reg [oM 7 2 [], oN 8 (.bin .gtr (.t 7) (.c (.int .i64 1))) [0]] false) (.cond (.t 8) (.seq (.reg [oM 9 0 [], oM 10 1 [], oM 11 2 [], oN 12 (.bin .quo (.t 11) (.c (.int .i64 2))) [2], oN 13 (.call 121 [(.t 9), (.t 10), (.t 12)]) [0, 1, 3], oM 14 0 [], oM 15 1 [], oM 16 2 [], oN 17 (.bin .quo (.t 16) (.c (.int .i64 2))) [7], oN 18 (.bin .add (.t 15) (.t 17)) [6, 8], oM 19 2 [], oN 20 (.bin .quo (.t 19) (.c (.int .i64 2))) [10], oN 21 (.call 121 [(.t 14), (.t 18), (.t 20)]) [5, 9, 11, 4], oN 22 (.call 126 [(.t 13), (.t 21)]) [4, 12, 12], oM 6 22 [13, 13, 0, 1, 2, 3, 4, 5, 6, 7, 8, 9, 10, 11, 12, 13]] false) .ret) .skip)) (.seq (.seq (.reg [oM 23 1 [], oM 24 0 [], oN 25 (.len (.t 24)) [1], oN 26 (.bin .geq (.t 23) (.t 25)) [0, 2]] false) (.cond (.t 26) (.seq (.reg [oN 27 (.call 148 []) [], oM 6 27 [0, 0, 0]] false) .ret) .skip)) (.seq (.reg [oM 28 0 [], oM 29 1 [], oN 30 (.ixsl 5 (.t 28) (.t 29)) [0, 1], oN 31 (.ld true 5 (.t 30)) [2], oN 32 (.call 42 [(.t 31)]) [3], oN 33 (.call 125 [(.t 32)]) [4, 4], oM 6 33 [5, 5, 0, 1, 2, 3, 4, 5]] false) .ret))))
theorem mcOkv121 : (match Tryz.f121.body with | some c => Q2 Tryz.prog 34 c | none => none) = some mcv121 := by kernel_rfl
theorem vc121_0 (ls : List Lf) (hl : LsOK ls) (b : Nat) (hb : b + 2 ^ 0 ≤ 64) : FC Tryz.prog 121 [.rs 5 (ls.map cLf), iv ((b : Nat) : Int), iv ((2 ^ (0) : Nat) : Int)] [] (.str (Qu (Q4 (ofK ls) (0) (b)))) [] false := by
  have hln := hl.n
  refine Qs (nt := 34) Tryz.func121 rfl rfl mcOkv121 (nL rfl) ?_
  delta mcv121
  refine Qb (Qc (Qe rfl rfl (Qa fun _ => Qd (Qb (Qb (Qc (Qe rfl rfl (Qz rfl rfl rfl rfl (by decide) ?_))))))))
  refine Qa fun _ => Qd (Qh rfl (fun h => by cases h) (fun _ => ?_))
  refine Qn (Qd (Qb (Qb (Qc (Qf 2 rfl (Qq rfl rfl (XM rfl rfl rfl (Qa fun _ => Qd ?_))))))))
  refine Qh rfl (fun h26 => ?_) (fun h26 => ?_)
  · replace h26 := of_decide_eq_true h26
    refine Qb (Qc (Qi [] rfl rfl (vc148) (.nil) rfl (Qe rfl rfl (Qa fun _ => Qd (Ql (Q1 ?_))))))
    rw [show Q4 (ofK ls) 0 b = missS from by show (ofK ls b 1).getD [] = _; rw [ofK_2 (by decide) (by omega)]; rfl]
    exact Qk rfl rfl rfl (.inr rfl)
  · replace h26 := of_decide_eq_false h26
    refine Qn (Qd (Qb ?_))
    obtain ⟨x, hx, hxm⟩ := Qy (L := ls) (k := b) (by omega)
    refine Qc (Qf 2 rfl (Qt (f := cLf) (y := x) rfl rfl rfl (by omega) hx (QR (cs := cLf x) rfl rfl (nL rfl) rfl (Qi [] rfl rfl (vc42 x (hl.ok x hxm)) (.cons (Qg rfl) (.nil)) rfl (Qi [] rfl rfl (vc125 (X7 x) ⟨textS_8 (hl.ok x hxm).b, Nat.le_trans (textS_len (hl.ok x hxm).n) (by decide)⟩) (.cons (Qg rfl) (.nil)) rfl (Qe rfl rfl (Qa fun _ => Qd (Ql ?_))))))))
    rw [show Q4 (ofK ls) 0 b = Jr (X7 x) from by show (ofK ls b 1).getD [] = _; rw [ofK_3 (by decide) hx]; rfl]
    exact Qk rfl rfl rfl (.inr rfl)
theorem vc121_s (ls : List Lf) (hl : LsOK ls) (d b : Nat) (hb : b + 2 ^ (d + 1) ≤ 64) (ih : ∀ c, c + 2 ^ d ≤ 64 → FC Tryz.prog 121 [.rs 5 (ls.map cLf), iv ((c : Nat) : Int), iv ((2 ^ (d) : Nat) : Int)] [] (.str (Qu (Q4 (ofK ls) (d) (c)))) [] false) : FC Tryz.prog 121 [.rs 5 (ls.map cLf), iv ((b : Nat) : Int), iv ((2 ^ (d + 1) : Nat) : Int)] [] (.str (Qu (Q4 (ofK ls) (d + 1) (b)))) [] false := by
  have hpw := pow2 d
  refine Qs (nt := 34) Tryz.func121 rfl rfl mcOkv121 (nL rfl) ?_
  delta mcv121
  refine Qb (Qc (Qe rfl rfl (Qa fun _ => Qd (Qb (Qb (Qc (Qe rfl rfl (QT rfl rfl rfl rfl (by have := Nat.two_pow_pos d; rw [Nat.pow_succ]; omega) ?_))))))))
  refine Qa fun _ => Qd (Qh rfl (fun _ => ?_) (fun h => by cases h))
  refine Qb (Qc (Qf 3 rfl (Xy rfl rfl rfl (by decide) (quo2W hpw (by omega)) (Qi [] rfl rfl (ih b (by omega)) (.cons (Qg rfl) (.cons (Qg rfl) (.cons (Qg rfl) (.nil)))) rfl (Qf 3 rfl (Xy rfl rfl rfl (by decide) (quo2W hpw (by omega)) (Xi (c := ((b + 2 ^ d : Nat) : Int)) rfl rfl rfl (addNW (by omega)) (Qe rfl rfl (Xy rfl rfl rfl (by decide) (quo2W hpw (by omega)) ?_)))))))))
  refine Qi [] rfl rfl (ih (b + 2 ^ d) (by omega)) (.cons (Qg rfl) (.cons (Qg rfl) (.cons (Qg rfl) (.nil)))) rfl (Qi [] rfl rfl (vc126 (Q4 (ofK ls) d b) (Q4 (ofK ls) d (b + 2 ^ d)) ((ofK_ok ls).tree _ _) ((ofK_ok ls).tree _ _)) (.cons (Qg rfl) (.cons (Qg rfl) (.nil))) rfl (Qe rfl rfl (Qa fun _ => Qd (Ql (Q1 ?_)))))
  rw [treeD_f (by rw [ofK_one]; rfl)]
  exact Qk rfl rfl rfl (.inr rfl)
theorem vc121 (ls : List Lf) (hl : LsOK ls) : ∀ (d b : Nat), b + 2 ^ d ≤ 64 → FC Tryz.prog 121 [.rs 5 (ls.map cLf), iv ((b : Nat) : Int), iv ((2 ^ (d) : Nat) : Int)] [] (.str (Qu (Q4 (ofK ls) (d) (b)))) [] false
  | 0, b, hb => vc121_0 ls hl b hb
  | d + 1, b, hb => vc121_s ls hl d b hb fun c hc => vc121 ls hl d c hc
def mcv70 : MC := (.seq (.reg [oN 8 (.mv (.c .nils)) []] false) (.seq (.seq (.reg [oM 9 2 [], oM 10 0 [], oN 11 (.len (.t 10)) [1], oN 12 (.bin .geq (.t 9) (.t 11)) [0, 2]] false) (.cond (.t 12) (.seq (.reg [oN 8 (.mv (.c .nils)) []] false) .ret) .skip)) (.seq (.seq (.reg [oM 13 1 [], oM 14 2 [], oM 15 3 [], oN 16 (.call 120 [(.t 13), (.t 14), (.t 15)]) [0, 1, 2], oN 17 (.un .not (.t 16)) [3]] false) (.cond (.t 17) (.seq (.reg [oM 18 0 [], oM 19 2 [], oM 20 3 [], oN 21 (.call 121 [(.t 18), (.t 19), (.t 20)]) [0, 1, 2], oN 22 (.bslice 9 1 [(.str (Qu []))] 1 [(0, (.t 21))]) [3], oM 8 22 [4, 3, 0, 1, 2, 3, 4]] false) .ret) .skip)) (.seq (.seq (.reg [oM 23 3 [], oN 24 (.bin .eql (.t 23) (.c (.int .i64 1))) [0]] false) (.cond (.t 24) (.seq (.reg [oN 8 (.mv (.c .nils)) []] false) .ret) .skip)) (.seq (.reg [oM 25 0 [], oM 26 1 [], oM 27 2 [], oM 28 3 [], oN 29 (.bin .quo (.t 28) (.c (.int .i64 2))) [3], oN 30 (.call 70 [(.t 25), (.t 26), (.t 27), (.t 29)]) [0, 1, 2, 4], oM 31 0 [], oM 32 1 [], oM 33 2 [], oM 34 3 [], oN 35 (.bin .quo (.t 34) (.c (.int .i64 2))) [9], oN 36 (.bin .add (.t 33) (.t 35)) [8, 10], oM 37 3 [], oN 38 (.bin .quo (.t 37) (.c (.int .i64 2))) [12], oN 39 (.call 70 [(.t 31), (.t 32), (.t 36), (.t 38)]) [6, 7, 11, 13, 5], oN 40 (.app 9 1 16 [(.str (Qu []))] (.t 30) (.t 39)) [5, 14, 14], oM 8 40 [15, 15, 0, 1, 2, 3, 4, 5, 6, 7, 8, 9, 10, 11, 12, 13, 14, 15]] false) .ret)))))
theorem mcOkv70 : (match Tryz.f70.body with | some c => Q2 Tryz.prog 41 c | none => none) = some mcv70 := by kernel_rfl
theorem vc70_0 (ls : List Lf) (hl : LsOK ls) (w : List Int) (hw : w.length ≤ 1000) (b : Nat) (hb : b + 2 ^ 0 ≤ 64) : FC Tryz.prog 70 [.rs 5 (ls.map cLf), .rs 1 (w.map civ), iv ((b : Nat) : Int), iv ((2 ^ (0) : Nat) : Int)] [] (.sl 905 0 (QO ls.length w (0) (b)).length) [(905, .cells 9 1 (((QO ls.length w (0) (b)).map (Xb ls)).map cS) true)] false := by
  have hln := hl.n
  refine Qs (nt := 41) Tryz.func70 rfl rfl mcOkv70 (nL rfl) ?_
  delta mcv70
  refine aw_post (Qb (Qc (Qe rfl rfl (Qa fun _ => Qd (Qb (Qb (Qc (Qf 2 rfl ?_))))))))
  refine Qq rfl rfl (XM rfl rfl rfl (Qa fun _ => Qd (Qh rfl (fun h12 => ?_) (fun h12 => ?_))))
  · replace h12 := of_decide_eq_true h12
    refine Qb (Qc (Qe rfl rfl (Qa fun _ => Qd (Ql (Q1 ?_)))))
    rw [hid_0 (show ls.length ≤ b by omega)]
    exact ⟨[(8, .sl 905 0 (([] : List (Nat × Nat))).length)], [(905, .cells 9 1 (((([] : List (Nat × Nat))).map (Xb ls)).map cS) true)], Qj (.cons rfl (J7 rfl rfl) (.nil)) (.virt rfl (.nil)) (fun i h => by cases h), Q5 rfl (Q6 rfl (.inr rfl)) (.keep rfl rfl (XR (fun _ => rfl) _) .nil)⟩
  · replace h12 := of_decide_eq_false h12
    refine Qn (Qd (Qb (Qb (Qc (Qf 3 rfl (Qi [] rfl rfl (vc120 w (by omega) b (2 ^ (0)) (by omega)) (.cons (Qg rfl) (.cons (Qg rfl) (.cons (Qg rfl) (.nil)))) rfl ?_))))))
    cases h16 : w.any (XP (b, 2 ^ (0)))
    · skip
      refine rs_not rfl rfl (Qa fun _ => Qd (Qh rfl (fun _ => ?_) (fun h => by cases h)))
      refine Qb (Qc (Qf 3 rfl (Qi [] rfl rfl (vc121 ls hl (0) b (by omega)) (.cons (Qg rfl) (.cons (Qg rfl) (.cons (Qg rfl) (.nil)))) rfl (Qv (l := (([Q4 (ofK ls) (0) b] : List (List Int))).flatMap cS) (els := (([Q4 (ofK ls) (0) b] : List (List Int))).map cS) (fl := true) rfl (by kernel_rfl) rfl rfl (by kernel_rfl) (by kernel_rfl) (Qe rfl rfl (Qa fun _ => Qd (Ql (Q1 ?_))))))))
      rw [hid_1 (by omega) h16]
      exact ⟨[(8, .sl 905 0 ([(b, 2 ^ (0))]).length)], [(905, .cells 9 1 ((([(b, 2 ^ (0))]).map (Xb ls)).map cS) true)], QQ (i := 22) (i' := 905) (F1 := [(8, .sl 22 0 ([(b, 2 ^ (0))]).length)]) (H1 := [(22, .cells 9 1 ((([(b, 2 ^ (0))]).map (Xb ls)).map cS) true)]) (.cons rfl (rc_eq (by simp) rfl) (.nil)) (.keep (by rw [show [(b, 2 ^ (0))].map (Xb ls) = [Q4 (ofK ls) (0) b] from by rw [List.map_cons, hidT_pow ls (by omega)]; rfl]; rfl) rfl (.nil)) (fun i h => by cases h) rfl rfl (.cons rfl (.sl _ _) (.nil)) (.cs (.nil)) (.keep (rfl) rfl (.nil)) (fun i h => by cases h), Q5 rfl (Q6 rfl (.inr rfl)) (.keep rfl rfl (XR (fun _ => rfl) _) .nil)⟩
    · skip
      refine rs_not rfl rfl (Qa fun _ => Qd (Qh rfl (fun h => by cases h) (fun _ => ?_)))
      refine Qn (Qd (Qb (Qb (Qc (Qe rfl rfl (QT rfl rfl rfl rfl rfl (Qa fun _ => Qd (Qh rfl (fun _ => ?_) (fun h => by cases h)))))))))
      refine Qb (Qc (Qe rfl rfl (Qa fun _ => Qd (Ql (Q1 ?_)))))
      rw [hid_2 (by omega) h16]
      exact ⟨[(8, .sl 905 0 (([] : List (Nat × Nat))).length)], [(905, .cells 9 1 (((([] : List (Nat × Nat))).map (Xb ls)).map cS) true)], Qj (.cons rfl (J7 rfl rfl) (.nil)) (.virt rfl (.nil)) (fun i h => by cases h), Q5 rfl (Q6 rfl (.inr rfl)) (.keep rfl rfl (XR (fun _ => rfl) _) .nil)⟩
theorem vc70_s (ls : List Lf) (hl : LsOK ls) (w : List Int) (hw : w.length ≤ 1000) (d b : Nat) (hb : b + 2 ^ (d + 1) ≤ 64) (ih : ∀ c i, c + 2 ^ d ≤ 64 → FC Tryz.prog 70 [.rs 5 (ls.map cLf), .rs 1 (w.map civ), iv ((c : Nat) : Int), iv ((2 ^ (d) : Nat) : Int)] [] (.sl i 0 (QO ls.length w (d) (c)).length) [(i, .cells 9 1 (((QO ls.length w (d) (c)).map (Xb ls)).map cS) true)] false) : FC Tryz.prog 70 [.rs 5 (ls.map cLf), .rs 1 (w.map civ), iv ((b : Nat) : Int), iv ((2 ^ (d + 1) : Nat) : Int)] [] (.sl 905 0 (QO ls.length w (d + 1) (b)).length) [(905, .cells 9 1 (((QO ls.length w (d + 1) (b)).map (Xb ls)).map cS) true)] false := by
  have hln := hl.n
  have hpw := pow2 d
  have h1l := hidS_len ls.length w d b
  have h2l := hidS_len ls.length w d (b + 2 ^ d)
  have h6 : d + 1 ≤ 6 := by
    refine Decidable.byContradiction fun h => ?_
    have := Nat.pow_le_pow_right (show 0 < 2 by decide) (show 7 ≤ d + 1 by omega)
    omega
  refine Qs (nt := 41) Tryz.func70 rfl rfl mcOkv70 (nL rfl) ?_
  delta mcv70
  refine aw_post (Qb (Qc (Qe rfl rfl (Qa fun _ => Qd (Qb (Qb (Qc (Qf 2 rfl ?_))))))))
  refine Qq rfl rfl (XM rfl rfl rfl (Qa fun _ => Qd (Qh rfl (fun h12 => ?_) (fun h12 => ?_))))
  · replace h12 := of_decide_eq_true h12
    refine Qb (Qc (Qe rfl rfl (Qa fun _ => Qd (Ql (Q1 ?_)))))
    rw [hid_0 (show ls.length ≤ b by omega)]
    exact ⟨[(8, .sl 905 0 (([] : List (Nat × Nat))).length)], [(905, .cells 9 1 (((([] : List (Nat × Nat))).map (Xb ls)).map cS) true)], Qj (.cons rfl (J7 rfl rfl) (.nil)) (.virt rfl (.nil)) (fun i h => by cases h), Q5 rfl (Q6 rfl (.inr rfl)) (.keep rfl rfl (XR (fun _ => rfl) _) .nil)⟩
  · replace h12 := of_decide_eq_false h12
    refine Qn (Qd (Qb (Qb (Qc (Qf 3 rfl (Qi [] rfl rfl (vc120 w (by omega) b (2 ^ (d + 1)) (by omega)) (.cons (Qg rfl) (.cons (Qg rfl) (.cons (Qg rfl) (.nil)))) rfl ?_))))))
    cases h16 : w.any (XP (b, 2 ^ (d + 1)))
    · skip
      refine rs_not rfl rfl (Qa fun _ => Qd (Qh rfl (fun _ => ?_) (fun h => by cases h)))
      refine Qb (Qc (Qf 3 rfl (Qi [] rfl rfl (vc121 ls hl (d + 1) b (by omega)) (.cons (Qg rfl) (.cons (Qg rfl) (.cons (Qg rfl) (.nil)))) rfl (Qv (l := (([Q4 (ofK ls) (d + 1) b] : List (List Int))).flatMap cS) (els := (([Q4 (ofK ls) (d + 1) b] : List (List Int))).map cS) (fl := true) rfl (by kernel_rfl) rfl rfl (by kernel_rfl) (by kernel_rfl) (Qe rfl rfl (Qa fun _ => Qd (Ql (Q1 ?_))))))))
      rw [hid_1 (by omega) h16]
      exact ⟨[(8, .sl 905 0 ([(b, 2 ^ (d + 1))]).length)], [(905, .cells 9 1 ((([(b, 2 ^ (d + 1))]).map (Xb ls)).map cS) true)], QQ (i := 22) (i' := 905) (F1 := [(8, .sl 22 0 ([(b, 2 ^ (d + 1))]).length)]) (H1 := [(22, .cells 9 1 ((([(b, 2 ^ (d + 1))]).map (Xb ls)).map cS) true)]) (.cons rfl (rc_eq (by simp) rfl) (.nil)) (.keep (by rw [show [(b, 2 ^ (d + 1))].map (Xb ls) = [Q4 (ofK ls) (d + 1) b] from by rw [List.map_cons, hidT_pow ls (by omega)]; rfl]; rfl) rfl (.nil)) (fun i h => by cases h) rfl rfl (.cons rfl (.sl _ _) (.nil)) (.cs (.nil)) (.keep (rfl) rfl (.nil)) (fun i h => by cases h), Q5 rfl (Q6 rfl (.inr rfl)) (.keep rfl rfl (XR (fun _ => rfl) _) .nil)⟩
    · skip
      refine rs_not rfl rfl (Qa fun _ => Qd (Qh rfl (fun h => by cases h) (fun _ => ?_)))
      refine Qn (Qd (Qb (Qb (Qc (Qe rfl rfl (Qz rfl rfl rfl rfl (by have := Nat.two_pow_pos d; rw [Nat.pow_succ]; omega) (Qa fun _ => Qd (Qh rfl (fun h => by cases h) (fun _ => ?_)))))))))
      refine Qn (Qd (Qb (Qc (Qf 4 rfl (Xy rfl rfl rfl (by decide) (quo2W hpw (by omega)) (Qi [] rfl rfl (ih b 901 (by omega)) (.cons (Qg rfl) (.cons (Qg rfl) (.cons (Qg rfl) (.cons (Qg rfl) .nil)))) rfl (Qf 4 rfl (Xy rfl rfl rfl (by decide) (quo2W hpw (by omega)) (Xi (c := ((b + 2 ^ d : Nat) : Int)) rfl rfl rfl (addNW (by omega)) ?_)))))))))
      refine Qe rfl rfl (Xy rfl rfl rfl (by decide) (quo2W hpw (by omega)) (Qi [] rfl rfl (ih (b + 2 ^ d) 902 (by omega)) (.cons (Qg rfl) (.cons (Qg rfl) (.cons (Qg rfl) (.cons (Qg rfl) .nil)))) rfl (rs_app_mm (f := cS) (xs := (QO ls.length w d b).map (Xb ls)) (ys := (QO ls.length w d (b + 2 ^ d)).map (Xb ls)) (m := (QO ls.length w d (b + 2 ^ d)).length) (rd := [902]) rfl rfl rfl rfl (src_full rfl (by simp)) rfl rfl (by decide) (fun _ => rfl) (by simp) (by simp) (by omega) (by omega) (fun _ => rfl) (Qe rfl rfl (Qa fun _ => Qd (Ql ?_))))))
      rw [hid_3 (by omega) h16]
      exact ⟨[(8, .sl 905 0 (QO ls.length w d b ++ QO ls.length w d (b + 2 ^ d)).length)], [(905, .cells 9 1 (((QO ls.length w d b ++ QO ls.length w d (b + 2 ^ d)).map (Xb ls)).map cS) true)], QQ (i := 40) (i' := 905) (F1 := [(8, .sl 40 0 (QO ls.length w d b ++ QO ls.length w d (b + 2 ^ d)).length)]) (H1 := [(40, .cells 9 1 (((QO ls.length w d b ++ QO ls.length w d (b + 2 ^ d)).map (Xb ls)).map cS) true)]) (.cons rfl (rc_eq (by simp) rfl) (.nil)) (.keep (by rw [List.map_append (f := Xb ls)]; rfl) rfl (.nil)) (fun i h => by cases h) rfl rfl (.cons rfl (.sl _ _) (.nil)) (.cs (.nil)) (.keep (rfl) rfl (.nil)) (fun i h => by cases h), Q5 rfl (Q6 rfl (.inr rfl)) (.keep rfl rfl (XR (fun _ => rfl) _) .nil)⟩
theorem vc70i {ls : List Lf} {w : List Int} {d b : Nat} (i : Nat) (h : FC Tryz.prog 70 [.rs 5 (ls.map cLf), .rs 1 (w.map civ), iv ((b : Nat) : Int), iv ((2 ^ (d) : Nat) : Int)] [] (.sl 905 0 (QO ls.length w (d) (b)).length) [(905, .cells 9 1 (((QO ls.length w (d) (b)).map (Xb ls)).map cS) true)] false) : FC Tryz.prog 70 [.rs 5 (ls.map cLf), .rs 1 (w.map civ), iv ((b : Nat) : Int), iv ((2 ^ (d) : Nat) : Int)] [] (.sl i 0 (QO ls.length w (d) (b)).length) [(i, .cells 9 1 (((QO ls.length w (d) (b)).map (Xb ls)).map cS) true)] false :=
  fc_ren (swp 905 i) (swp_swp _ _) h (.cons (.closed rfl) (.cons (.closed rfl) (.cons (.closed rfl) (.cons (.closed rfl) .nil)))) .nil (.sl (by simp [swp])) (.cons (by simp [swp]) .flat .nil)
theorem vc70 (ls : List Lf) (hl : LsOK ls) (w : List Int) (hw : w.length ≤ 1000) : ∀ (d b i : Nat), b + 2 ^ d ≤ 64 → FC Tryz.prog 70 [.rs 5 (ls.map cLf), .rs 1 (w.map civ), iv ((b : Nat) : Int), iv ((2 ^ (d) : Nat) : Int)] [] (.sl i 0 (QO ls.length w (d) (b)).length) [(i, .cells 9 1 (((QO ls.length w (d) (b)).map (Xb ls)).map cS) true)] false
  | 0, b, i, hb => vc70i i (vc70_0 ls hl w hw b hb)
  | d + 1, b, i, hb => vc70i i (vc70_s ls hl w hw d b hb fun c j hc => vc70 ls hl w hw d c j hc)
def mcv33 : MC := (.seq (.reg [oN 1 (.box 55 3 (.t 0)) [], oN 2 (.mv (.c .nils)) []] false) (.seq (.reg [oN 3 (.mv (.c .nils)) []] false) (.seq (.seq (.reg [oN 4 (.mv (.c (.int .i64 0))) []] false) (.block 0 (.loop (.seq (.seq (.reg [oM 5 4 [], oA 6 1 1 [], oD 7 1 6 [1], oN 8 (.len (.t 7)) [2], oN 9 (.bin .lss (.t 5) (.t 8)) [0, 3]] false) (.cond (.t 9) .skip (.exit 0))) (.seq (.block 1 (.reg [oM 12 3 [], oA 13 1 1 [], oD 14 1 13 [1], oM 15 4 [], oN 16 (.ixsl 5 (.t 14) (.t 15)) [2, 3], oA 17 0 16 [4], oD 18 1 17 [5], oN 19 (.bslice 3 1 [(.int .i64 0)] 1 [(0, (.t 18))]) [6], oN 20 (.app 3 1 8 [(.int .i64 0)] (.t 12) (.t 19)) [0, 7], oM 3 20 [8, 8, 0, 1, 2, 3, 4, 5, 6, 7, 8]] false)) (.reg [oM 10 4 [], oN 11 (.bin .add (.t 10) (.c (.int .i64 1))) [0], oM 4 11 [1, 0, 1]] false)))))) (.seq (.reg [oM 21 3 [], oM 2 21 [0, 0]] false) .ret))))
theorem mcOkv33 : (match Tryz.f33.body with | some c => Q2 Tryz.prog 22 c | none => none) = some mcv33 := by kernel_rfl
theorem vc33 (z : Int) (lv : List Lf) (hd : List (List Int)) (hlv : lv.length ≤ 64) : FC Tryz.prog 33 [.agg [.int .i64 z, .rs 5 (lv.map cLf), .rs 1 (hd.map cS)]] [] (.rs 1 ((QN lv).map civ)) [] false := by
  refine Qs (nt := 22) Tryz.func33 rfl rfl mcOkv33 (nL rfl) ?_
  delta mcv33
  refine Qb (Qc (Qf 2 rfl (Qa fun _ => Qd (Qb (Qc (Qe rfl rfl (Qa fun _ => Qd ?_)))))))
  refine Qb (Qb (Qc (Qe rfl rfl (Qa fun _ => Qd (Qm ?_)))))
  refine QC (α := Nat) (fun k => lv.length - k) (fun k => [(1, .ptr 1 0 0), (3, .sl 901 0 (k)), (4, iv (((k) : Nat) : Int))]) (fun k => [(1, .cells 55 3 [[.int .i64 z, .rs 5 (lv.map cLf), .rs 1 (hd.map cS)]] true), (901, .cells 3 1 ((QN (lv.take (k))).map civ) true)]) (fun k => k ≤ lv.length) 0 (by omega)
    (Qj (.cs (.cons rfl (J7 rfl rfl) (.cs (.nil)))) (.keep (rfl) rfl (.virt rfl (.nil))) (fun i h => by cases h)) ?_
  intro k hk
  refine Qb (Qb (Qc (Qf 3 rfl (Qq rfl rfl (QJ rfl rfl rfl (Qa fun _ => Qd (Qh rfl (fun h9 => ?_) (fun h9 => ?_))))))))
  · replace h9 := of_decide_eq_true h9
    refine Qn (Qd (Qb (Qm (Qc (Qf 2 rfl ?_)))))
    obtain ⟨x, hxk, hxm⟩ := Qy (L := lv) (k := k) (by omega)
    refine Qf 2 rfl (Qt (f := cLf) (y := x) rfl rfl rfl (by omega) hxk (Qf 2 rfl (Qv (l := (([x.ix] : List Int)).flatMap civ) (els := (([x.ix] : List Int)).map civ) (fl := true) rfl (by kernel_rfl) rfl rfl (by kernel_rfl) (by kernel_rfl) (QV (f := civ) (xs := QN (lv.take k)) (y := x.ix) (fl' := true) rfl rfl rfl rfl (by simp; omega) rfl rfl rfl (by decide) rfl (by omega) (by omega) rfl (Qe rfl rfl (Qa fun _ => QI (Qd (Qc ?_))))))))
    refine Qe rfl rfl (Qx rfl rfl rfl (by omega) (Qe rfl rfl (Qa fun _ => Qd ?_)))
    exact ⟨k + 1, by omega, by omega, QQ (i := 20) (i' := 901) (F1 := [(1, .ptr 1 0 0), (3, .sl 20 0 (k + 1)), (4, iv (((k + 1) : Nat) : Int))]) (H1 := [(1, .cells 55 3 [[.int .i64 z, .rs 5 (lv.map cLf), .rs 1 (hd.map cS)]] true), (20, .cells 3 1 ((QN (lv.take (k + 1))).map civ) true)]) (.cs (.cs (.cs (.nil)))) (.keep (rfl) rfl (.keep (by rw [ixs_succ hxk]; rfl) rfl (.nil))) (fun i h => by cases h) rfl rfl (.cons rfl (.same _) (.cons rfl (.sl _ _) (.cons rfl (.same _) (.nil)))) (.cs (.cs (.cs (.nil)))) (.keep (rfl) rfl (.keep (rfl) rfl (.nil))) (fun i h => by cases h)⟩
  · replace h9 := of_decide_eq_false h9
    refine Q3 (QB (QB (QA (Qd (Qb (Qc (Qf 2 rfl (Qa fun _ => Qd ?_))))))))
    refine Ql ?_
    obtain rfl : k = lv.length := by omega
    rw [show QN lv = QN (lv.take lv.length) by rw [List.take_of_length_le (Nat.le_refl _)]]
    exact Q5 rfl (QK rfl rfl (by simp) (fun _ => rfl)) .nil
def mcv32 : MC := (.seq (.reg [oN 4 (.mv (.c (.bool false))) []] false) (.seq (.seq (.reg [oM 6 0 [], oN 7 (.len (.t 6)) [0], oM 8 1 [], oN 9 (.len (.t 8)) [2], oN 10 (.bin .neq (.t 7) (.t 9)) [1, 3]] false) (.cond (.t 10) (.seq (.reg [oN 4 (.mv (.c (.bool false))) []] false) .ret) .skip)) (.seq (.seq (.reg [oN 5 (.mv (.c (.int .i64 0))) []] false) (.block 0 (.loop (.seq (.seq (.reg [oM 11 5 [], oM 12 0 [], oN 13 (.len (.t 12)) [1], oN 14 (.bin .lss (.t 11) (.t 13)) [0, 2]] false) (.cond (.t 14) .skip (.exit 0))) (.seq (.block 1 (.seq (.reg [oM 17 0 [], oM 18 5 [], oN 19 (.ixsl 1 (.t 17) (.t 18)) [0, 1], oD 20 1 19 [2], oM 21 1 [], oM 22 5 [], oN 23 (.ixsl 1 (.t 21) (.t 22)) [4, 5], oD 24 1 23 [6], oN 25 (.bin .neq (.t 20) (.t 24)) [3, 7]] true) (.cond (.t 25) (.seq (.reg [oN 4 (.mv (.c (.bool false))) []] false) .ret) .skip))) (.reg [oM 15 5 [], oN 16 (.bin .add (.t 15) (.c (.int .i64 1))) [0], oM 5 16 [1, 0, 1]] false)))))) (.seq (.reg [oN 4 (.mv (.c (.bool true))) []] false) .ret))))
theorem mcOkv32 : (match Tryz.f32.body with | some c => Q2 Tryz.prog 26 c | none => none) = some mcv32 := by kernel_rfl
theorem vc32 (a b : List Int)  (han : a.length ≤ 4611686018427387904) : FC Tryz.prog 32 [.rs 1 (a.map civ), .rs 1 (b.map civ)] [] (.bool (decide (a = b))) [] false := by
  refine Qs (nt := 26) Tryz.func32 rfl rfl mcOkv32 (nL rfl) ?_
  delta mcv32
  refine Qb (Qc (Qe rfl rfl (Qa fun _ => Qd (Qb (Qb (Qc (Qe rfl rfl (Qq rfl rfl ?_))))))))
  refine Qe rfl rfl (Qq rfl rfl (JD rfl rfl rfl (Qa fun _ => Qd (Qh rfl (fun h10 => ?_) (fun h10 => ?_)))))
  · replace h10 := of_decide_eq_true h10
    refine Qb (Qc (Qe rfl rfl (Qa fun _ => Qd (Ql (Q1 ?_)))))
    rw [show decide (a = b) = false from decide_eq_false (fun e => h10 (by rw [e]))]
    exact Qk rfl rfl rfl (.inr rfl)
  · replace h10 := of_decide_eq_false h10
    refine Qn (Qd (Qb (Qb (Qc (Qe rfl rfl (Qa fun _ => Qd (Qm ?_)))))))
    refine QC (α := Nat) (fun k => a.length - k) (fun k => [(0, .rs 1 (a.map civ)), (1, .rs 1 (b.map civ)), (5, iv (((k) : Nat) : Int))]) (fun k => []) (fun k => k ≤ a.length ∧ a.take k = b.take k) 0 (⟨by omega, rfl⟩)
      (Qj (.cs (.cs (.cs (.nil)))) (.nil) (fun i h => by cases h)) ?_
    rintro k ⟨hk, hinv⟩
    refine Qb (Qb (Qc (Qf 2 rfl (Qq rfl rfl (QJ rfl rfl rfl (Qa fun _ => Qd (Qh rfl (fun h14 => ?_) (fun h14 => ?_))))))))
    · replace h14 := of_decide_eq_true h14
      refine Qn (Qd (Qb (Qm (Qb (Q8 Xr ?_)))))
      obtain ⟨x, hxk, hxm⟩ := Qy (L := a) (k := k) (by omega)
      obtain ⟨y, hyk, hym⟩ := Qy (L := b) (k := k) (by omega)
      refine Qf 2 rfl (Qt (f := civ) (y := x) rfl rfl rfl (by omega) hxk (Qf 3 rfl (Qt (f := civ) (y := y) rfl rfl rfl (by omega) hyk (Xh rfl rfl rfl (JD rfl rfl rfl (Qa ⟨by kernel_rfl, fun _ => ?_⟩))))))
      refine Qd (Qh rfl (fun h25 => ?_) (fun h25 => ?_))
      · replace h25 := of_decide_eq_true h25
        refine Qb (Qc (Qe rfl rfl (Qa fun _ => Qd (Ql (QL (Q1 (Q1 (QL ?_))))))))
        refine Q1 ?_
        rw [show decide (a = b) = false from decide_eq_false (eq_hit hxk hyk h25)]
        exact Qk rfl rfl rfl (.inr rfl)
      · replace h25 := of_decide_eq_false h25
        refine Qn (QI (Qd (Qc (Qe rfl rfl (Qx rfl rfl rfl (by omega) (Qe rfl rfl (Qa fun _ => Qd ?_)))))))
        exact ⟨k + 1, ⟨by omega, eq_step hinv hxk hyk (Decidable.byContradiction h25)⟩, by omega, Qj (.cs (.cs (.cs (.nil)))) (.nil) (fun i h => by cases h)⟩
    · replace h14 := of_decide_eq_false h14
      refine Q3 (QB (QB (QA (Qd (Qb (Qc (Qe rfl rfl (Qa fun _ => Qd ?_))))))))
      refine Ql ?_
      rw [show decide (a = b) = true from decide_eq_true (eq_end hinv (by omega) (by omega))]
      exact Qk rfl rfl rfl (.inr rfl)
end Go.Proofs.YthfhaoogcpfboaaGreat

/-! Walks: VY. -/
namespace Go.Proofs.YthfhaoogcpfboaaGreat
open Go.RowKit
set_option maxRecDepth 100000
set_option linter.unusedVariables false
theorem fm_isSome {z : Int} {lv : List Lf} {hd : List (List Int)} (h1 : ¬ (z < 1 ∨ z > 16)) (h2 : incF z (-1) (QN lv) = true) (h4 : hd.any Jd = false) : (fmS z lv hd).isSome = decide (((Xc z.toNat (QN lv)).length : Int) = hd.length) := by
  by_cases h3 : ((Xc z.toNat (QN lv)).length : Int) = hd.length
  · rw [fm_5 h1 h2 (fun q => q h3) h4, decide_eq_true h3]; rfl
  · rw [fm_3 h1 h2 h3, decide_eq_false h3]; rfl
theorem fm_short {z : Int} {lv : List Lf} {hd : List (List Int)} (h : hd.any Jd = true) : (fmS z lv hd).isSome = false := by
  cases hf : fmS z lv hd with
  | none => rfl
  | some sp =>
    obtain ⟨d, hd1, hd2⟩ := List.any_eq_true.1 h
    have := (fm_parts hf).2.2.2.2 d hd1
    simp only [Jd, decide_eq_true_eq] at hd2
    omega
theorem fm_inc {z : Int} {lv : List Lf} {hd : List (List Int)} (h : incF z (-1) (QN lv) = false) : (fmS z lv hd).isSome = false := by
  cases hf : fmS z lv hd with
  | none => rfl
  | some sp => rw [(fm_parts hf).2.1] at h; cases h
theorem fm_size {z : Int} {lv : List Lf} {hd : List (List Int)} (h : z < 1 ∨ z > 16) : (fmS z lv hd).isSome = false := by rw [fm_1 h]; rfl
theorem fm_many {z : Int} {lv : List Lf} {hd : List (List Int)} (h : (lv.length : Int) > z) : (fmS z lv hd).isSome = false := by
  cases hf : fmS z lv hd with
  | none => rfl
  | some sp =>
    have h2 := fm_parts hf
    have := incF_len h2.2.1
    simp only [List.length_map] at this
    omega
theorem dfl_ok (n : Nat) (h : n ≤ 64) : LsOK (List.replicate n dfL) := ⟨by simpa using h, fun x hx => by
  rw [(List.mem_replicate.1 hx).2]
  exact ⟨⟨by decide, by decide⟩, ⟨by decide, by decide⟩, (fun x hx => by cases hx), by decide⟩⟩
def mcv76 : MC := (.seq (.reg [oN 1 (.box 55 3 (.t 0)) [], oN 2 (.mv (.c (.bool false))) []] false) (.seq (.seq (.reg [oA 6 0 1 [], oD 7 1 6 [0], oN 8 (.bin .lss (.t 7) (.c (.int .i64 1))) [1], oM 9 8 [2], pA 10 0 1 9 false [3], pD 11 1 10 9 false [4, 3], oG 12 (.bin .gtr (.t 11) (.c (.int .i64 16))) 9 false [5, 3], oN 13 (.pick (.t 9) (.c (.bool true)) (.t 12)) [3, 6], oM 14 13 [7, 3], pA 15 1 1 14 false [8], pD 16 1 15 14 false [9, 8], oG 17 (.len (.t 16)) 14 false [10, 8], pA 18 0 1 14 false [8], pD 19 1 18 14 false [12, 8], oG 20 (.bin .gtr (.t 17) (.t 19)) 14 false [11, 13, 8], oN 21 (.pick (.t 14) (.c (.bool true)) (.t 20)) [8, 14]] false) (.cond (.t 21) (.seq (.reg [oN 2 (.mv (.c (.bool false))) []] false) .ret) .skip)) (.seq (.reg [oN 22 (.ld true 3 (.t 1)) [], oN 23 (.call 33 [(.t 22)]) [0], oM 3 23 [1, 1, 0, 1]] false) (.seq (.seq (.reg [oN 4 (.mv (.c (.int .i64 0))) []] false) (.block 0 (.loop (.seq (.seq (.reg [oM 24 4 [], oM 25 3 [], oN 26 (.len (.t 25)) [1], oN 27 (.bin .lss (.t 24) (.t 26)) [0, 2]] false) (.cond (.t 27) .skip (.exit 0))) (.seq (.block 1 (.seq (.reg [oM 30 3 [], oM 31 4 [], oN 32 (.ixsl 1 (.t 30) (.t 31)) [0, 1], oD 33 1 32 [2], oN 34 (.bin .lss (.t 33) (.c (.int .i64 0))) [3], oM 35 34 [4], pM 36 3 35 false [5], pM 37 4 35 false [5], oG 38 (.ixsl 1 (.t 36) (.t 37)) 35 false [6, 7, 5], pD 39 1 38 35 false [8, 5], pA 40 0 1 35 false [5], pD 41 1 40 35 false [10, 5], oG 42 (.bin .geq (.t 39) (.t 41)) 35 false [9, 11, 5], oN 43 (.pick (.t 35) (.c (.bool true)) (.t 42)) [5, 12], oM 44 43 [13, 5], pM 45 4 44 false [14], oG 46 (.bin .gtr (.t 45) (.c (.int .i64 0))) 44 false [15, 14], pM 47 46 44 false [16, 14, 14], pM 48 3 47 true [17], pM 49 4 47 true [17], oG 50 (.ixsl 1 (.t 48) (.t 49)) 47 true [18, 19, 17], pD 51 1 50 47 true [20, 17], pM 52 3 47 true [17], pM 53 4 47 true [17], oG 54 (.bin .sub (.t 53) (.c (.int .i64 1))) 47 true [23, 17], oG 55 (.ixsl 1 (.t 52) (.t 54)) 47 true [22, 24, 17], pD 56 1 55 47 true [25, 17], oG 57 (.bin .leq (.t 51) (.t 56)) 47 true [21, 26, 17], oG 58 (.pick (.t 47) (.t 57) (.c (.bool false))) 44 false [17, 27, 14], oN 59 (.pick (.t 44) (.c (.bool true)) (.t 58)) [14, 28]] true) (.cond (.t 59) (.seq (.reg [oN 2 (.mv (.c (.bool false))) []] false) .ret) .skip))) (.reg [oM 28 4 [], oN 29 (.bin .add (.t 28) (.c (.int .i64 1))) [0], oM 4 29 [1, 0, 1]] false)))))) (.seq (.seq (.reg [oN 5 (.mv (.c (.int .i64 0))) []] false) (.block 2 (.loop (.seq (.seq (.reg [oM 60 5 [], oA 61 2 1 [], oD 62 1 61 [1], oN 63 (.len (.t 62)) [2], oN 64 (.bin .lss (.t 60) (.t 63)) [0, 3]] false) (.cond (.t 64) .skip (.exit 2))) (.seq (.block 3 (.seq (.reg [oA 67 2 1 [], oD 68 1 67 [0], oM 69 5 [], oN 70 (.ixsl 1 (.t 68) (.t 69)) [1, 2], oD 71 1 70 [3], oN 72 (.slen (.t 71)) [4], oN 73 (.bin .neq (.t 72) (.c (.int .i64 8))) [5]] false) (.cond (.t 73) (.seq (.reg [oN 2 (.mv (.c (.bool false))) []] false) .ret) .skip))) (.reg [oM 65 5 [], oN 66 (.bin .add (.t 65) (.c (.int .i64 1))) [0], oM 5 66 [1, 0, 1]] false)))))) (.seq (.reg [oA 74 2 1 [], oD 75 1 74 [0], oN 76 (.len (.t 75)) [1], oA 77 0 1 [], oD 78 1 77 [3], oN 79 (.mksl 51 5 40 [(.int .i64 0), (.int .i64 0), (.bool false), (.bool false), (.str (Qu []))] (.t 78) (.t 78)) [4, 4], oM 80 3 [], oA 81 0 1 [], oD 82 1 81 [7], oN 83 (.call 71 [(.t 82)]) [8], oN 84 (.call 70 [(.t 79), (.t 80), (.c (.int .i64 0)), (.t 83)]) [5, 6, 9, 9], oN 85 (.len (.t 84)) [10], oN 86 (.bin .eql (.t 76) (.t 85)) [2, 11], oM 2 86 [12, 10, 0, 1, 2, 3, 4, 5, 6, 7, 8, 9, 10, 11, 12]] true) .ret))))))
theorem mcOkv76 : (match Tryz.f76.body with | some c => Q2 Tryz.prog 87 c | none => none) = some mcv76 := by kernel_rfl
set_option maxHeartbeats 1000000 in
theorem vc76 (z : Int) (lv : List Lf) (hd : List (List Int)) (hlv : lv.length ≤ 64) (hhd : hd.length ≤ 64) : FC Tryz.prog 76 [.agg [.int .i64 z, .rs 5 (lv.map cLf), .rs 1 (hd.map cS)]] [] (.bool (fmS z lv hd).isSome) [] false := by
  have hil : (QN lv).length = lv.length := by simp
  refine Qs (nt := 87) Tryz.func76 rfl rfl mcOkv76 (nL rfl) ?_
  delta mcv76
  refine Qb (Qc (Qf 2 rfl (Qa fun _ => Qd (Qb (Qb (Qc (Qf 2 rfl (QE rfl rfl rfl rfl (fun h8 => ?_) (fun h8 => ?_)))))))))
  · skip
    refine Qf 13 rfl (Qa fun _ => Qd (Qh rfl (fun _ => ?_) (fun h => by cases h)))
    refine Qb (Qc (Qe rfl rfl (Qa fun _ => Qd (Ql (Q1 ?_)))))
    rw [fm_size (by omega)]
    exact Qk rfl rfl rfl (.inr rfl)
  · skip
    refine Qf 3 rfl (QE rfl rfl rfl rfl (fun h12 => ?_) (fun h12 => ?_))
    · skip
      refine Qf 9 rfl (Qa fun _ => Qd (Qh rfl (fun _ => ?_) (fun h => by cases h)))
      refine Qb (Qc (Qe rfl rfl (Qa fun _ => Qd (Ql (Q1 ?_)))))
      rw [fm_size (by omega)]
      exact Qk rfl rfl rfl (.inr rfl)
    · skip
      refine Qf 4 rfl (Qq rfl rfl (Qf 2 rfl (QE rfl rfl rfl rfl (fun h20 => ?_) (fun h20 => ?_))))
      · skip
        refine QM rfl rfl rfl (Qa fun _ => Qd (Qh rfl (fun _ => ?_) (fun h => by cases h)))
        refine Qb (Qc (Qe rfl rfl (Qa fun _ => Qd (Ql (Q1 ?_)))))
        rw [fm_many (by omega)]
        exact Qk rfl rfl rfl (.inr rfl)
      · skip
        refine QM rfl rfl rfl (Qa fun _ => Qd (Qh rfl (fun h => by cases h) (fun _ => ?_)))
        refine Qn (Qd (Qb (Qc (Qo rfl rfl rfl rfl (nL rfl) rfl (Qi [] rfl rfl (vc33 z lv hd hlv) (.cons (Qg rfl) (.nil)) rfl (Qe rfl rfl (Qa fun _ => Qd (Qb ?_))))))))
        refine Qb (Qc (Qe rfl rfl (Qa fun _ => Qd (Qm ?_))))
        refine QC (α := Nat × Int) (fun s => (QN lv).length - s.1) (fun s => [(1, .ptr 1 0 0), (3, .rs 1 ((QN lv).map civ)), (4, iv (((s.1) : Nat) : Int))]) (fun s => [(1, .cells 55 3 [[.int .i64 z, .rs 5 (lv.map cLf), .rs 1 (hd.map cS)]] true)]) (fun s => s.1 ≤ (QN lv).length ∧ (s.1 = 0 ∧ s.2 = -1 ∨ 1 ≤ s.1 ∧ (QN lv)[s.1 - 1]? = some s.2) ∧ incF z s.2 ((QN lv).drop s.1) = incF z (-1) (QN lv)) (0, -1) (⟨by show 0 ≤ _; omega, .inl ⟨rfl, rfl⟩, rfl⟩)
          (Qj (.cs (.cs (.cs (.nil)))) (.keep (rfl) rfl (.nil)) (fun i h => by cases h)) ?_
        rintro ⟨k, p⟩ ⟨hk, hp, hinv⟩
        dsimp only at hk hp hinv ⊢
        refine Qb (Qb (Qc (Qf 2 rfl (Qq rfl rfl (QJ rfl rfl rfl (Qa fun _ => Qd (Qh rfl (fun h27 => ?_) (fun h27 => ?_))))))))
        · replace h27 := of_decide_eq_true h27
          refine Qn (Qd (Qb (Qm (Qb (Q8 Xr (Qf 2 rfl ?_))))))
          obtain ⟨x, hxk, hxm⟩ := Qy (L := QN lv) (k := k) (by omega)
          rw [incF_at hxk] at hinv
          refine Qt (f := civ) (y := x) rfl rfl rfl (by omega) hxk (Xh rfl rfl rfl (QE rfl rfl rfl rfl (fun h34 => ?_) (fun h34 => ?_)))
          · skip
            refine Qf 25 rfl (Qa ⟨by kernel_rfl, fun _ => ?_⟩)
            refine Qd (Qh rfl (fun _ => ?_) (fun h => by cases h))
            refine Qb (Qc (Qe rfl rfl (Qa fun _ => Qd (Ql (QL (Q1 (Q1 (QL ?_))))))))
            refine Q1 ?_
            rw [fm_inc (by rw [← hinv]; simp only [Bool.and_eq_false_iff, decide_eq_false_iff_not]; omega)]
            exact Qk rfl rfl rfl (.inr rfl)
          · skip
            refine Qf 3 rfl (Qt (f := civ) (y := x) rfl rfl rfl (by omega) hxk (Qf 3 rfl (QE rfl rfl rfl rfl (fun h42 => ?_) (fun h42 => ?_))))
            · skip
              refine Qf 17 rfl (Qa ⟨by kernel_rfl, fun _ => ?_⟩)
              refine Qd (Qh rfl (fun _ => ?_) (fun h => by cases h))
              refine Qb (Qc (Qe rfl rfl (Qa fun _ => Qd (Ql (QL (Q1 (Q1 (QL ?_))))))))
              refine Q1 ?_
              rw [fm_inc (by rw [← hinv]; simp only [Bool.and_eq_false_iff, decide_eq_false_iff_not]; omega)]
              exact Qk rfl rfl rfl (.inr rfl)
            · skip
              refine Qf 3 rfl (QE rfl rfl rfl rfl (fun h46 => ?_) (fun h46 => ?_))
              · skip
                refine Qf 3 rfl (Qt (f := civ) (y := x) rfl rfl rfl (by omega) hxk (Qf 3 rfl (rs_sub rfl rfl rfl (by omega) ?_)))
                obtain ⟨p0, ha, ham⟩ := Qy (L := QN lv) (k := k - 1) (by omega)
                refine Qt (f := civ) (y := p0) rfl rfl rfl (by omega) (by rw [show ((k : Int) - 1).toNat = k - 1 by omega]; exact ha) (Xh rfl rfl rfl (QE rfl rfl rfl rfl (fun h57 => ?_) (fun h57 => ?_)))
                · skip
                  refine Qf 2 rfl (Qa ⟨by kernel_rfl, fun _ => ?_⟩)
                  refine Qd (Qh rfl (fun _ => ?_) (fun h => by cases h))
                  refine Qb (Qc (Qe rfl rfl (Qa fun _ => Qd (Ql (QL (Q1 (Q1 (QL ?_))))))))
                  refine Q1 ?_
                  rw [fm_inc (by rw [← hinv, decide_eq_false (show ¬ p < x by have hp2 := (hp.resolve_left (fun h => by omega)).2; rw [hp2] at ha; injection ha with ha; omega), Bool.and_false]; rfl)]
                  exact Qk rfl rfl rfl (.inr rfl)
                · skip
                  refine Qf 2 rfl (Qa ⟨by kernel_rfl, fun _ => ?_⟩)
                  refine Qd (Qh rfl (fun h => by cases h) (fun _ => ?_))
                  refine Qn (QI (Qd (Qc (Qe rfl rfl (Qx rfl rfl rfl (by omega) (Qe rfl rfl (Qa fun _ => Qd ?_)))))))
                  rw [show (decide (0 ≤ x) && decide (x < z) && decide (p < x)) = true from by simp only [Bool.and_eq_true, decide_eq_true_eq]; exact ⟨⟨by omega, by omega⟩, (by have hp2 := (hp.resolve_left (fun h => by omega)).2; rw [hp2] at ha; injection ha with ha; omega)⟩, Bool.true_and] at hinv
                  exact ⟨(k + 1, x), ⟨by show k + 1 ≤ _; omega, .inr ⟨by show 1 ≤ k + 1; omega, by show (QN lv)[k + 1 - 1]? = _; rw [show k + 1 - 1 = k by omega]; exact hxk⟩, hinv⟩, by show _ - (k + 1) < _; omega, Qj (.cs (.cs (.cs (.nil)))) (.keep (rfl) rfl (.nil)) (fun i h => by cases h)⟩
              · skip
                refine Qf 13 rfl (Qa ⟨by kernel_rfl, fun _ => ?_⟩)
                refine Qd (Qh rfl (fun h => by cases h) (fun _ => ?_))
                refine Qn (QI (Qd (Qc (Qe rfl rfl (Qx rfl rfl rfl (by omega) (Qe rfl rfl (Qa fun _ => Qd ?_)))))))
                rw [show (decide (0 ≤ x) && decide (x < z) && decide (p < x)) = true from by simp only [Bool.and_eq_true, decide_eq_true_eq]; exact ⟨⟨by omega, by omega⟩, (hp.elim (fun h => by omega) (fun h => by omega))⟩, Bool.true_and] at hinv
                exact ⟨(k + 1, x), ⟨by show k + 1 ≤ _; omega, .inr ⟨by show 1 ≤ k + 1; omega, by show (QN lv)[k + 1 - 1]? = _; rw [show k + 1 - 1 = k by omega]; exact hxk⟩, hinv⟩, by show _ - (k + 1) < _; omega, Qj (.cs (.cs (.cs (.nil)))) (.keep (rfl) rfl (.nil)) (fun i h => by cases h)⟩
        · replace h27 := of_decide_eq_false h27
          refine Q3 (QB (QB (QA (Qd (Qb (Qb ?_))))))
          have hinc : incF z (-1) (QN lv) = true := by rw [← hinv, List.drop_eq_nil_of_le (by omega)]; rfl
          refine Qc (Qe rfl rfl (Qa fun _ => Qd (Qm ?_)))
          refine QC (α := Nat) (fun j => hd.length - j) (fun j => [(1, .ptr 1 0 0), (3, .rs 1 ((QN lv).map civ)), (5, iv (((j) : Nat) : Int))]) (fun j => [(1, .cells 55 3 [[.int .i64 z, .rs 5 (lv.map cLf), .rs 1 (hd.map cS)]] true)]) (fun j => j ≤ hd.length ∧ (hd.drop j).any Jd = hd.any Jd) 0 (⟨by omega, rfl⟩)
            (Qj (.cs (.cs (.cs (.nil)))) (.keep (rfl) rfl (.nil)) (fun i h => by cases h)) ?_
          rintro j ⟨hj, hinv2⟩
          refine Qb (Qb (Qc (Qf 3 rfl (Qq rfl rfl (QJ rfl rfl rfl (Qa fun _ => Qd (Qh rfl (fun h64 => ?_) (fun h64 => ?_))))))))
          · replace h64 := of_decide_eq_true h64
            refine Qn (Qd (Qb (Qm (Qb (Qc (Qf 3 rfl ?_))))))
            obtain ⟨d, hdk, hdm⟩ := Qy (L := hd) (k := j) (by omega)
            refine Qt (f := cS) (y := d) rfl rfl rfl (by omega) hdk (Xh rfl rfl rfl (J6 rfl rfl (JD rfl rfl rfl (Qa fun _ => Qd (Qh rfl (fun h73 => ?_) (fun h73 => ?_))))))
            · replace h73 := of_decide_eq_true h73
              refine Qb (Qc (Qe rfl rfl (Qa fun _ => Qd (Ql (QL (Q1 (Q1 (QL ?_))))))))
              refine Q1 ?_
              rw [fm_short (by rw [← hinv2, any_at hdk, show Jd d = true from decide_eq_true h73]; rfl)]
              exact Qk rfl rfl rfl (.inr rfl)
            · replace h73 := of_decide_eq_false h73
              refine Qn (QI (Qd (Qc (Qe rfl rfl (Qx rfl rfl rfl (by omega) (Qe rfl rfl (Qa fun _ => Qd ?_)))))))
              rw [any_at hdk, show Jd d = false from decide_eq_false h73, Bool.false_or] at hinv2
              exact ⟨j + 1, ⟨by omega, hinv2⟩, by omega, Qj (.cs (.cs (.cs (.nil)))) (.keep (rfl) rfl (.nil)) (fun i h => by cases h)⟩
          · replace h64 := of_decide_eq_false h64
            refine Q3 (QB (QB (QA (Qd (Qb ?_)))))
            have hzn : ((z.toNat : Nat) : Int) = z := by omega
            have hlg := lg16 (n := z.toNat) (by omega)
            refine Q8 Xr (Qf 2 rfl (Qq rfl rfl (Qf 2 rfl (rs_mksl (n := z) rfl rfl rfl rfl rfl (by omega) (by omega) (by omega) (Qf 3 rfl (Qi [] rfl rfl (vc71 z.toNat (by omega)) (.cons (hv_int hzn.symm) (.nil)) rfl (Qi [79] rfl rfl (vc70 (List.replicate z.toNat dfL) (dfl_ok _ (by omega)) (QN lv) (by omega) (lg z.toNat) 0 901 (by omega)) (.cons (hv_sl (by simp) rfl (by simp) (by simp [dfL])) (.cons (Qg rfl) (.cons (Qg rfl) (.cons (Qg rfl) .nil)))) rfl (Xu rfl rfl (rs_eql rfl rfl rfl ?_)))))))))
            refine Qe rfl rfl (Qa ⟨by kernel_rfl, fun _ => ?_⟩)
            refine Qd (Ql ?_)
            have hsh : hd.any Jd = false := by rw [← hinv2, List.drop_eq_nil_of_le (by omega)]; rfl
            rw [fm_isSome (by omega) hinc hsh]
            rw [show decide (((Xc z.toNat (QN lv)).length : Int) = hd.length) = ((hd.length : Int) == ((QO (List.replicate z.toNat dfL).length (QN lv) (lg z.toNat) 0).length : Int)) from by rw [List.length_replicate]; simp [Xc, eq_comm, BEq.beq]]
            exact Qk rfl rfl rfl (.inr rfl)
def mcv77 : MC := (.seq (.reg [oN 4 (.box 55 3 (.t 0)) [], oN 8 (.mv (.c (.str (Qu [])))) [], oN 9 (.mv (.c (.int .i64 0))) [1]] false) (.seq (.seq (.reg [oM 15 1 [], oA 16 0 4 [], oD 17 1 16 [1], oN 18 (.bin .geq (.t 15) (.t 17)) [0, 2]] false) (.cond (.t 18) (.seq (.reg [oM 19 1 [], oM 20 2 [], oN 21 (.call 121 [(.c .nils), (.t 19), (.t 20)]) [0, 1], oM 22 3 [], oM 8 21 [2, 2, 0, 1, 2], oM 9 22 [3, 4, 0, 1, 2, 3, 4]] false) .ret) .skip)) (.seq (.seq (.reg [oN 23 (.ld true 3 (.t 4)) [], oN 24 (.call 33 [(.t 23)]) [0], oM 25 1 [], oM 26 2 [], oN 27 (.call 120 [(.t 24), (.t 25), (.t 26)]) [1, 2, 3, 1], oN 28 (.un .not (.t 27)) [4]] false) (.cond (.t 28) (.seq (.reg [oA 29 2 4 [], oD 30 1 29 [0], oM 31 3 [], oN 32 (.ixsl 1 (.t 30) (.t 31)) [1, 2], oD 33 1 32 [3], oM 34 3 [], oN 35 (.bin .add (.t 34) (.c (.int .i64 1))) [5], oM 8 33 [4, 0, 1, 2, 3, 4], oM 9 35 [6, 7, 0, 1, 2, 3, 4, 5, 6, 7]] false) .ret) .skip)) (.seq (.seq (.reg [oM 36 2 [], oN 37 (.bin .eql (.t 36) (.c (.int .i64 1))) [0]] false) (.cond (.t 37) (.seq (.reg [oN 10 (.mv (.c (.int .i64 0))) []] false) (.block 0 (.loop (.seq (.seq (.reg [oM 38 10 [], oA 39 1 4 [], oD 40 1 39 [1], oN 41 (.len (.t 40)) [2], oN 42 (.bin .lss (.t 38) (.t 41)) [0, 3]] false) (.cond (.t 42) .skip (.exit 0))) (.seq (.block 1 (.seq (.reg [oA 45 1 4 [], oD 46 1 45 [0], oM 47 10 [], oN 48 (.ixsl 5 (.t 46) (.t 47)) [1, 2], oA 49 0 48 [3], oD 50 1 49 [4], oM 51 1 [], oN 52 (.bin .eql (.t 50) (.t 51)) [5, 6]] false) (.cond (.t 52) (.seq (.reg [oA 53 1 4 [], oD 54 1 53 [0], oM 55 10 [], oN 56 (.ixsl 5 (.t 54) (.t 55)) [1, 2], oN 57 (.ld true 5 (.t 56)) [3], oN 58 (.call 42 [(.t 57)]) [4], oN 59 (.call 125 [(.t 58)]) [5, 5], oM 60 3 [], oM 8 59 [6, 6, 0, 1, 2, 3, 4, 5, 6], oM 9 60 [7, 8, 0, 1, 2, 3, 4, 5, 6, 7, 8]] false) .ret) .skip))) (.reg [oM 43 10 [], oN 44 (.bin .add (.t 43) (.c (.int .i64 1))) [0], oM 10 44 [1, 0, 1]] false)))))) .skip)) (.seq (.reg [oN 62 (.ld true 3 (.t 4)) [], oM 63 1 [], oM 64 2 [], oN 65 (.bin .quo (.t 64) (.c (.int .i64 2))) [2], oM 66 3 [], oN 67 (.call 77 [(.t 62), (.t 63), (.t 65), (.t 66)]) [0, 1, 3, 4], oM 61 67 [5], oN 68 (.ext (.t 61) 0) [6], oN 69 (.ext (.t 61) 1) [6], oM 11 68 [7, 5, 0, 1, 2, 3, 4, 5, 6, 7], oM 12 69 [8, 9, 0, 1, 2, 3, 4, 5, 6, 7, 8, 9]] false) (.seq (.reg [oN 71 (.ld true 3 (.t 4)) [], oM 72 1 [], oM 73 2 [], oN 74 (.bin .quo (.t 73) (.c (.int .i64 2))) [2], oN 75 (.bin .add (.t 72) (.t 74)) [1, 3], oM 76 2 [], oN 77 (.bin .quo (.t 76) (.c (.int .i64 2))) [5], oM 78 12 [], oN 79 (.call 77 [(.t 71), (.t 75), (.t 77), (.t 78)]) [0, 4, 6, 7], oM 70 79 [8], oN 80 (.ext (.t 70) 0) [9], oN 81 (.ext (.t 70) 1) [9], oM 13 80 [10, 8, 0, 1, 2, 3, 4, 5, 6, 7, 8, 9, 10], oM 14 81 [11, 12, 0, 1, 2, 3, 4, 5, 6, 7, 8, 9, 10, 11, 12]] false) (.seq (.reg [oM 82 11 [], oM 83 13 [], oN 84 (.call 126 [(.t 82), (.t 83)]) [0, 1], oM 85 14 [], oM 8 84 [2, 2, 0, 1, 2], oM 9 85 [3, 4, 0, 1, 2, 3, 4]] false) .ret)))))))
theorem mcOkv77 : (match Tryz.f77.body with | some c => Q2 Tryz.prog 86 c | none => none) = some mcv77 := by kernel_rfl
set_option maxHeartbeats 1000000 in
theorem vc77_0 (z : Int) (lv : List Lf) (hd : List (List Int)) (hsh : ShOK lv hd) (hz : 1 ≤ z ∧ z ≤ 16) (b u : Nat) (hb : b + 2 ^ 0 ≤ 64) (hu : u + (QO z.toNat (QN lv) (0) (b)).length ≤ hd.length) : FC Tryz.prog 77 [.agg [.int .i64 z, .rs 5 (lv.map cLf), .rs 1 (hd.map cS)], iv ((b : Nat) : Int), iv ((2 ^ (0) : Nat) : Int), iv ((u : Nat) : Int)] [] (.tup [.str (Qu (dgR z lv hd (0) (b) (u)).1), iv (((dgR z lv hd (0) (b) (u)).2 : Nat) : Int)]) [] false := by
  have hnl := hsh.nl
  have hnh := hsh.nh
  have hil : (QN lv).length = lv.length := by simp
  refine Qs (nt := 86) Tryz.func77 rfl rfl mcOkv77 (nL rfl) ?_
  delta mcv77
  refine Qb (Qc (Qf 3 rfl (Qa fun _ => Qd (Qb (Qb (Qc (Qf 3 rfl (XM rfl rfl rfl ?_))))))))
  refine Qa fun _ => Qd (Qh rfl (fun h18 => ?_) (fun h18 => ?_))
  · replace h18 := of_decide_eq_true h18
    refine Qb (Qc (Qf 2 rfl (Qi [] rfl rfl (vc121 [] ⟨by decide, fun x hx => by cases hx⟩ (0) b (by omega)) (.cons (hv_nils) (.cons (Qg rfl) (.cons (Qg rfl) (.nil)))) rfl (Qf 3 rfl (Qa fun _ => Qd (Ql (Q1 ?_)))))))
    rw [dgR_1 (by omega)]
    exact Qk rfl rfl rfl (.inr rfl)
  · replace h18 := of_decide_eq_false h18
    refine Qn (Qd (Qb (Qb (Qc (Qo rfl rfl rfl rfl (nL rfl) rfl (Qi [] rfl rfl (vc33 z lv hd hsh.nl) (.cons (Qg rfl) (.nil)) rfl (Qf 2 rfl (Qi [] rfl rfl (vc120 (QN lv) (by omega) b (2 ^ (0)) (by omega)) (.cons (Qg rfl) (.cons (Qg rfl) (.cons (Qg rfl) (.nil)))) rfl ?_))))))))
    cases h27 : (QN lv).any (XP (b, 2 ^ (0)))
    · skip
      refine rs_not rfl rfl (Qa fun _ => Qd (Qh rfl (fun _ => ?_) (fun h => by cases h)))
      refine Qb (Qc (Qf 3 rfl ?_))
      rw [hid_1 (by omega) h27] at hu
      obtain ⟨x, hxu, hxum⟩ := Qy (L := hd) (k := u) (by simp at hu; omega)
      refine Qt (f := cS) (y := x) rfl rfl rfl (by omega) hxu (Qf 2 rfl (Xi (c := ((u + 1 : Nat) : Int)) rfl rfl rfl (by rw [show (1 : Int) = ((1 : Nat) : Int) from rfl]; exact addNW2 (by omega)) (Qf 2 rfl (Qa fun _ => Qd (Ql (Q1 ?_))))))
      rw [dgR_2 (by omega) h27, getD_at hxu]
      exact Qk rfl rfl rfl (.inr rfl)
    · skip
      refine rs_not rfl rfl (Qa fun _ => Qd (Qh rfl (fun h => by cases h) (fun _ => ?_)))
      refine Qn (Qd (Qb (Qb (Qc (Qe rfl rfl (QT rfl rfl rfl rfl rfl (Qa fun _ => Qd (Qh rfl (fun _ => ?_) (fun h => by cases h)))))))))
      refine Qb (Qc (Qe rfl rfl (Qa fun _ => Qd (Qm ?_))))
      refine QC (α := Nat) (fun k => lv.length - k) (fun k => [(1, iv (b : Int)), (3, iv (u : Int)), (4, .ptr 4 0 0), (10, iv (((k) : Nat) : Int))]) (fun k => [(4, .cells 55 3 [[.int .i64 z, .rs 5 (lv.map cLf), .rs 1 (hd.map cS)]] true)]) (fun k => k ≤ lv.length ∧ (lv.drop k).find? (fun x => decide (x.ix = (b : Int))) = lv.find? (fun x => decide (x.ix = (b : Int)))) 0 (⟨by omega, rfl⟩)
        (Qj (.cs (.cs (.cs (.cs (.nil))))) (.keep (rfl) rfl (.nil)) (fun i h => by cases h)) ?_
      rintro k ⟨hk, hinv⟩
      refine Qb (Qb (Qc (Qf 3 rfl (Qq rfl rfl (QJ rfl rfl rfl (Qa fun _ => Qd (Qh rfl (fun h42 => ?_) (fun h42 => ?_))))))))
      · replace h42 := of_decide_eq_true h42
        refine Qn (Qd (Qb (Qm (Qb (Qc (Q9 rfl rfl ?_))))))
        obtain ⟨x, hxk, hxm⟩ := Qy (L := lv) (k := k) (by omega)
        refine Qf 2 rfl (Qt (f := cLf) (y := x) rfl rfl rfl (by omega) hxk (Qf 3 rfl (rs_eql rfl rfl rfl (Qa fun _ => Qd (Qh rfl (fun h52 => ?_) (fun h52 => ?_))))))
        · replace h52 := of_decide_eq_true h52
          refine Qb (Qc (Qf 3 rfl (Qt (f := cLf) (y := x) rfl rfl rfl (by omega) hxk (QR (cs := cLf x) rfl rfl (nL rfl) rfl (Qi [] rfl rfl (vc42 x (hsh.ok x hxm)) (.cons (Qg rfl) (.nil)) rfl (Qi [] rfl rfl (vc125 (X7 x) ⟨textS_8 (hsh.ok x hxm).b, Nat.le_trans (textS_len (hsh.ok x hxm).n) (by decide)⟩) (.cons (Qg rfl) (.nil)) rfl (Qf 3 rfl (Qa fun _ => Qd ?_))))))))
          refine Ql (QL (Q1 (Q1 (QL (Q1 ?_)))))
          rw [dgR_3 (by omega) h27, show lfAt lv b = x from by unfold lfAt; rw [← hinv, find_at hxk, if_pos (decide_eq_true h52)]; rfl]
          exact Qk rfl rfl rfl (.inr rfl)
        · replace h52 := of_decide_eq_false h52
          refine Qn (QI (Qd (Qc (Qe rfl rfl (Qx rfl rfl rfl (by omega) (Qe rfl rfl (Qa fun _ => Qd ?_)))))))
          rw [find_at hxk, if_neg (by simp only [decide_eq_true_eq]; exact h52)] at hinv
          exact ⟨k + 1, ⟨by omega, hinv⟩, by omega, Qj (.cs (.cs (.cs (.cs (.nil))))) (.keep (rfl) rfl (.nil)) (fun i h => by cases h)⟩
      · replace h42 := of_decide_eq_false h42
        refine Q3 (QB (QB (QA (Qd (Qb ?_)))))
        obtain ⟨x, hx, hxb⟩ := any_ix h27
        rw [List.drop_eq_nil_of_le (by omega)] at hinv
        exact absurd (List.find?_eq_none.1 hinv.symm x hx) (by simp [hxb])
set_option maxHeartbeats 1000000 in
theorem vc77_s (z : Int) (lv : List Lf) (hd : List (List Int)) (hsh : ShOK lv hd) (hz : 1 ≤ z ∧ z ≤ 16) (d b u : Nat) (hb : b + 2 ^ (d + 1) ≤ 64) (hu : u + (QO z.toNat (QN lv) (d + 1) (b)).length ≤ hd.length) (ih : ∀ c u, c + 2 ^ d ≤ 64 → u + (QO z.toNat (QN lv) (d) (c)).length ≤ hd.length → FC Tryz.prog 77 [.agg [.int .i64 z, .rs 5 (lv.map cLf), .rs 1 (hd.map cS)], iv ((c : Nat) : Int), iv ((2 ^ (d) : Nat) : Int), iv ((u : Nat) : Int)] [] (.tup [.str (Qu (dgR z lv hd (d) (c) (u)).1), iv (((dgR z lv hd (d) (c) (u)).2 : Nat) : Int)]) [] false) : FC Tryz.prog 77 [.agg [.int .i64 z, .rs 5 (lv.map cLf), .rs 1 (hd.map cS)], iv ((b : Nat) : Int), iv ((2 ^ (d + 1) : Nat) : Int), iv ((u : Nat) : Int)] [] (.tup [.str (Qu (dgR z lv hd (d + 1) (b) (u)).1), iv (((dgR z lv hd (d + 1) (b) (u)).2 : Nat) : Int)]) [] false := by
  have hnl := hsh.nl
  have hnh := hsh.nh
  have hil : (QN lv).length = lv.length := by simp
  have hpw := pow2 d
  refine Qs (nt := 86) Tryz.func77 rfl rfl mcOkv77 (nL rfl) ?_
  delta mcv77
  refine Qb (Qc (Qf 3 rfl (Qa fun _ => Qd (Qb (Qb (Qc (Qf 3 rfl (XM rfl rfl rfl ?_))))))))
  refine Qa fun _ => Qd (Qh rfl (fun h18 => ?_) (fun h18 => ?_))
  · replace h18 := of_decide_eq_true h18
    refine Qb (Qc (Qf 2 rfl (Qi [] rfl rfl (vc121 [] ⟨by decide, fun x hx => by cases hx⟩ (d + 1) b (by omega)) (.cons (hv_nils) (.cons (Qg rfl) (.cons (Qg rfl) (.nil)))) rfl (Qf 3 rfl (Qa fun _ => Qd (Ql (Q1 ?_)))))))
    rw [dgR_1 (by omega)]
    exact Qk rfl rfl rfl (.inr rfl)
  · replace h18 := of_decide_eq_false h18
    refine Qn (Qd (Qb (Qb (Qc (Qo rfl rfl rfl rfl (nL rfl) rfl (Qi [] rfl rfl (vc33 z lv hd hsh.nl) (.cons (Qg rfl) (.nil)) rfl (Qf 2 rfl (Qi [] rfl rfl (vc120 (QN lv) (by omega) b (2 ^ (d + 1)) (by omega)) (.cons (Qg rfl) (.cons (Qg rfl) (.cons (Qg rfl) (.nil)))) rfl ?_))))))))
    cases h27 : (QN lv).any (XP (b, 2 ^ (d + 1)))
    · skip
      refine rs_not rfl rfl (Qa fun _ => Qd (Qh rfl (fun _ => ?_) (fun h => by cases h)))
      refine Qb (Qc (Qf 3 rfl ?_))
      rw [hid_1 (by omega) h27] at hu
      obtain ⟨x, hxu, hxum⟩ := Qy (L := hd) (k := u) (by simp at hu; omega)
      refine Qt (f := cS) (y := x) rfl rfl rfl (by omega) hxu (Qf 2 rfl (Xi (c := ((u + 1 : Nat) : Int)) rfl rfl rfl (by rw [show (1 : Int) = ((1 : Nat) : Int) from rfl]; exact addNW2 (by omega)) (Qf 2 rfl (Qa fun _ => Qd (Ql (Q1 ?_))))))
      rw [dgR_2 (by omega) h27, getD_at hxu]
      exact Qk rfl rfl rfl (.inr rfl)
    · skip
      refine rs_not rfl rfl (Qa fun _ => Qd (Qh rfl (fun h => by cases h) (fun _ => ?_)))
      refine Qn (Qd (Qb (Qb (Qc (Qe rfl rfl (Qz rfl rfl rfl rfl (by have := Nat.two_pow_pos d; rw [Nat.pow_succ]; omega) (Qa fun _ => Qd (Qh rfl (fun h => by cases h) (fun _ => ?_)))))))))
      refine Qn (Qd (Qb ?_))
      rw [hid_3 (by omega) h27, List.length_append] at hu
      have hu1 := dgR_u (lv := lv) (hd := hd) (z := z) (by omega) d b u
      refine Qc (Qo rfl rfl rfl rfl (nL rfl) rfl (Qf 2 rfl (Xy rfl rfl rfl (by decide) (quo2W hpw (by omega)) (Qe rfl rfl (Qi [] rfl rfl (ih b u (by omega) (by omega)) (.cons (Qg rfl) (.cons (Qg rfl) (.cons (Qg rfl) (.cons (Qg rfl) (.nil))))) rfl (Qf 5 rfl (Qa fun _ => Qd (Qb ?_))))))))
      refine Qc (Qo rfl rfl rfl rfl (nL rfl) rfl (Qf 2 rfl (Xy rfl rfl rfl (by decide) (quo2W hpw (by omega)) (Xi (c := ((b + 2 ^ d : Nat) : Int)) rfl rfl rfl (addNW (by omega)) (Qe rfl rfl (Xy rfl rfl rfl (by decide) (quo2W hpw (by omega)) (Qe rfl rfl (Qi [] rfl rfl (ih (b + 2 ^ d) (dgR z lv hd d b u).2 (by omega) (by rw [hu1]; omega)) (.cons (Qg rfl) (.cons (Qg rfl) (.cons (Qg rfl) (.cons (Qg rfl) (.nil))))) rfl (Qf 5 rfl ?_)))))))))
      refine Qa fun _ => Qd (Qb (Qc (Qf 2 rfl (Qi [] rfl rfl (vc126 (dgR z lv hd d b u).1 (dgR z lv hd d (b + 2 ^ d) (dgR z lv hd d b u).2).1 (dgR_8 hsh.b _ _ _) (dgR_8 hsh.b _ _ _)) (.cons (Qg rfl) (.cons (Qg rfl) (.nil))) rfl (Qf 3 rfl (Qa fun _ => Qd (Ql ?_)))))))
      rw [dgR_4 (by omega) h27]
      exact Qk rfl rfl rfl (.inr rfl)
theorem vc77 (z : Int) (lv : List Lf) (hd : List (List Int)) (hsh : ShOK lv hd) (hz : 1 ≤ z ∧ z ≤ 16) : ∀ (d b u : Nat), b + 2 ^ d ≤ 64 → u + (QO z.toNat (QN lv) (d) (b)).length ≤ hd.length → FC Tryz.prog 77 [.agg [.int .i64 z, .rs 5 (lv.map cLf), .rs 1 (hd.map cS)], iv ((b : Nat) : Int), iv ((2 ^ (d) : Nat) : Int), iv ((u : Nat) : Int)] [] (.tup [.str (Qu (dgR z lv hd (d) (b) (u)).1), iv (((dgR z lv hd (d) (b) (u)).2 : Nat) : Int)]) [] false
  | 0, b, u, hb, hu => vc77_0 z lv hd hsh hz b u hb hu
  | d + 1, b, u, hb, hu => vc77_s z lv hd hsh hz d b u hb hu fun c u hc hu => vc77 z lv hd hsh hz d c u hc hu
def mcv28 : MC := (.seq (.reg [oN 1 (.box 55 3 (.t 0)) [], oN 2 (.mv (.c (.str (Qu [])))) [], oN 3 (.mv (.c (.bool false))) [1]] false) (.seq (.seq (.reg [oN 6 (.ld true 3 (.t 1)) [], oN 7 (.call 76 [(.t 6)]) [0], oN 8 (.un .not (.t 7)) [1]] false) (.cond (.t 8) (.seq (.reg [oN 2 (.mv (.c (.str (Qu [])))) [], oN 3 (.mv (.c (.bool false))) [0, 0]] false) .ret) .skip)) (.seq (.reg [oN 10 (.ld true 3 (.t 1)) [], oA 11 0 1 [], oD 12 1 11 [1], oN 13 (.call 71 [(.t 12)]) [2], oN 14 (.call 77 [(.t 10), (.c (.int .i64 0)), (.t 13), (.c (.int .i64 0))]) [0, 3, 3], oM 9 14 [4], oN 15 (.ext (.t 9) 0) [5], oN 16 (.ext (.t 9) 1) [5], oM 4 15 [6, 4, 0, 1, 2, 3, 4, 5, 6], oM 5 16 [7, 8, 0, 1, 2, 3, 4, 5, 6, 7, 8]] true) (.seq (.reg [oM 17 4 [], oM 2 17 [0, 0], oN 3 (.mv (.c (.bool true))) [1, 0, 1]] false) .ret))))
theorem mcOkv28 : (match Tryz.f28.body with | some c => Q2 Tryz.prog 18 c | none => none) = some mcv28 := by kernel_rfl
theorem vc28 (z : Int) (lv : List Lf) (hd : List (List Int)) (h : ShOK lv hd) : FC Tryz.prog 28 [.agg [.int .i64 z, .rs 5 (lv.map cLf), .rs 1 (hd.map cS)]] [] (.tup [.str (Qu ((Jx z lv hd).getD [])), .bool (Jx z lv hd).isSome]) [] false := by
  refine Qs (nt := 18) Tryz.func28 rfl rfl mcOkv28 (nL rfl) ?_
  delta mcv28
  refine Qb (Qc (Qf 3 rfl (Qa fun _ => Qd (Qb (Qb (Qc (Qo rfl rfl rfl rfl (nL rfl) rfl (Qi [] rfl rfl (vc76 z lv hd h.nl h.nh) (.cons (Qg rfl) (.nil)) rfl ?_))))))))
  cases h7 : (fmS z lv hd).isSome
  · skip
    refine rs_not rfl rfl (Qa fun _ => Qd (Qh rfl (fun _ => ?_) (fun h => by cases h)))
    refine Qb (Qc (Qf 2 rfl (Qa fun _ => Qd (Ql (Q1 ?_)))))
    rw [root_none h7]
    exact Qk rfl rfl rfl (.inr rfl)
  · skip
    refine rs_not rfl rfl (Qa fun _ => Qd (Qh rfl (fun h => by cases h) (fun _ => ?_)))
    refine Qn (Qd (Qb ?_))
    obtain ⟨sp, hsp⟩ := Option.isSome_iff_exists.1 h7
    obtain ⟨hz, hinc, hspd, hsl, h8⟩ := fm_parts hsp
    have hzn : ((z.toNat : Nat) : Int) = z := by omega
    have hlg := lg16 (n := z.toNat) (by omega)
    refine Q8 Xr (Qo rfl rfl rfl rfl (nL rfl) rfl (Qf 2 rfl (Qi [] rfl rfl (vc71 z.toNat (by omega)) (.cons (hv_int hzn.symm) (.nil)) rfl (Qi [] rfl rfl (vc77 z lv hd h hz (lg z.toNat) 0 0 (by omega) (by rw [Nat.zero_add]; show (Xc z.toNat (QN lv)).length ≤ _; rw [← hspd, hsl]; exact Nat.le_refl _)) (.cons (Qg rfl) (.cons (Qg rfl) (.cons (Qg rfl) (.cons (Qg rfl) (.nil))))) rfl (Qf 5 rfl (Qa ⟨by kernel_rfl, fun _ => ?_⟩))))))
    refine Qd (Qb (Qc (Qf 3 rfl (Qa fun _ => Qd (Ql ?_)))))
    rw [← dgR_root hsp]
    exact Qk rfl rfl rfl (.inr rfl)
end Go.Proofs.YthfhaoogcpfboaaGreat

/-! Leaves that are changed where they are shown: what Show, RootOf and Change say of them, in plain words. -/
namespace Go.Proofs.YthfhaoogcpfboaaGreat
open Go.RowKit
set_option linter.unusedVariables false
section
variable {ls : List Lf} {w : List Int} {b0 b1 b2 : Int}
theorem w_at {k : Nat} (h : k < w.length) : w[k]? = some (w.getD k 0) := by
  rw [List.getD_eq_getElem?_getD, List.getElem?_eq_getElem h]; rfl
theorem IxOK.at_ {n : Nat} (h : IxOK n w) {k : Nat} (hk : k < w.length) : 0 ≤ w.getD k 0 ∧ w.getD k 0 < (n : Int) := h.bd _ (Xl (w_at hk))
theorem IxOK.lt {n : Nat} (h : IxOK n w) {i : Nat} : ∀ {j : Nat}, i < j → j < w.length → w.getD i 0 < w.getD j 0
  | 0, hij, _ => by omega
  | j + 1, hij, hj => by
    have h1 := h.inc j _ _ (w_at (by omega)) (w_at hj)
    by_cases e : i = j
    · rw [e]; exact h1
    · have := h.lt (i := i) (j := j) (by omega) (by omega); omega
theorem sel_mem {i : Int} (h0 : 0 ≤ i) (h1 : i < (ls.length : Int)) : Xt ls i ∈ ls := Xl (sel_some h0 h1)
theorem LvsOK.set {i : Nat} {y : Lf} (h : LvsOK ls) (hy : y.ix = (i : Int)) (ho : y.OK) : LvsOK (ls.set i y) where
  n := by rw [List.length_set]; exact h.n
  ix k x hx := by
    rw [List.getElem?_set] at hx
    split at hx
    · rename_i e
      split at hx
      · injection hx with hx; rw [← hx, ← e]; exact hy
      · cases hx
    · exact h.ix k x hx
  ok x hx := by
    rcases List.mem_or_eq_of_mem_set hx with hx | hx
    · exact h.ok x hx
    · rw [hx]; exact ho
end
end Go.Proofs.YthfhaoogcpfboaaGreat

/-! Walks: VZ. -/
namespace Go.Proofs.YthfhaoogcpfboaaGreat
open Go.RowKit
set_option maxRecDepth 100000
set_option linter.unusedVariables false
theorem rc_frzT {α : Type} {f : α → List AV} {xs : List α} {H H0 : Hp} {al : Bool} {i e z n : Nat} (h : get H i = some (.cells e z (xs.map f) true)) (h0 : get H0 i = none) (hn : n ≤ xs.length) (hf : ∀ x, noROL (f x) = true) : RC H H0 al (.sl i 0 n) (.rs z ((xs.take n).map f)) := by
  have := rc_freeze (H0 := H0) (al := al) (j := 0) (n := n) h h0 (by simpa using hn) (.inr fun el he v hv => noROE_mem (XR hf xs) el he v hv)
  rw [List.drop_zero, ← List.map_take] at this
  exact this
theorem src_sub {H : Hp} {i e z j n : Nat} {els els' : List (List AV)} {fl : Bool} (hg : get H i = some (.cells e z els fl)) (h : j + n ≤ els.length) (he : (els.drop j).take n = els') : srcOf H z (.sl i j n) = some ([i], els') := by
  subst he
  simp only [srcOf, hg]
  rw [if_pos ⟨trivial, h⟩]
def pick3 (a b c : Int) (q : Int) : Int := ([a, b, c] : List Int).getD (modS q 3).toNat 0
theorem pick3_at (a b c q : Int) : ([a, b, c] : List Int)[(modS q 3).toNat]? = some (pick3 a b c q) := by
  have := Jo q 3 (by decide)
  exact w_at (by simp; omega)
def lfK (lv : List Lf) (k : Nat) : Lf := lv.getD k dfL
/-- A Shown that is changed in one place. -/
def oddG (kd k h : Nat) (z : Int) (lv : List Lf) (hd : List (List Int)) (q2 : Int) : Shn :=
  match kd with
  | 0 => ⟨z, lv.set k ⟨(lfK lv k).ix, (lfK lv k).want, !(lfK lv k).sure, (lfK lv k).touched, (lfK lv k).salt⟩, hd⟩
  | 1 => ⟨z, lv.set k ⟨(lfK lv k).ix, (lfK lv k).want, (lfK lv k).sure, !(lfK lv k).touched, (lfK lv k).salt⟩, hd⟩
  | 2 => ⟨z, lv.set k ⟨(lfK lv k).ix, q2, (lfK lv k).sure, (lfK lv k).touched, (lfK lv k).salt⟩, hd⟩
  | 3 => ⟨z, lv.set k ⟨(lfK lv k).ix, (lfK lv k).want, (lfK lv k).sure, (lfK lv k).touched, (lfK lv k).salt ++ [120]⟩, hd⟩
  | 4 => ⟨z, lv.set k ⟨pick3 q2 (W ((lfK lv k).ix + 1)) (W ((lfK lv k).ix - 1)) q2, (lfK lv k).want, (lfK lv k).sure, (lfK lv k).touched, (lfK lv k).salt⟩, hd⟩
  | 5 => ⟨z, lv.take k ++ lv.drop (k + 1), hd⟩
  | 6 => ⟨pick3 q2 (W (z + 1)) (W (z - 1)) q2, lv, hd⟩
  | 7 => ⟨z, lv, hd.set h ((hd.getD h []).take ((hd.getD h []).length - 1) ++ [b8 q2])⟩
  | 8 => ⟨z, lv, hd.set h (hd.getD h [] ++ [120])⟩
  | 9 => ⟨z, lv, hd ++ [[49, 50, 51, 52, 53, 54, 55, 56]]⟩
  | _ => ⟨z, lv, hd.take (hd.length / 2)⟩
def XZ (kd N M : Nat) : Prop := (kd < 6 ∧ N = 0) ∨ (6 < kd ∧ kd < 9 ∧ M = 0)
instance (kd N M : Nat) : Decidable (XZ kd N M) := by unfold XZ; exact inferInstance
def oddF (kd k h : Nat) (z : Int) (lv : List Lf) (hd : List (List Int)) (q2 : Int) : Shn := if XZ kd lv.length hd.length then ⟨modS q2 18, lv, hd⟩ else oddG kd k h z lv hd q2
def XU (z : Int) (lv : List Lf) (hd : List (List Int)) (q0 q1 q2 : Int) : Shn := oddF (modS q0 11).toNat (modS q1 (max 1 (lv.length : Int))).toNat (modS q1 (max 1 (hd.length : Int))).toNat z lv hd q2
theorem lfK_at {lv : List Lf} {k : Nat} (h : k < lv.length) : lv[k]? = some (lfK lv k) := by
  unfold lfK; rw [List.getD_eq_getElem?_getD, List.getElem?_eq_getElem h]; rfl
theorem hdK_at {hd : List (List Int)} {k : Nat} (h : k < hd.length) : hd[k]? = some (hd.getD k []) := by
  rw [List.getD_eq_getElem?_getD, List.getElem?_eq_getElem h]; rfl
/-- Sizes that stay small. -/
structure ShB (n : Nat) (lv : List Lf) (hd : List (List Int)) : Prop where
  nl : lv.length ≤ n
  nh : hd.length ≤ n
  ok : ∀ x ∈ lv, I64 x.ix ∧ I64 x.want ∧ B8 x.salt ∧ x.salt.length ≤ n
  b : ∀ d ∈ hd, B8 d ∧ d.length ≤ n
theorem ShB.sh {n : Nat} {lv : List Lf} {hd : List (List Int)} (h : ShB n lv hd) (hn : n ≤ 64) : ShOK lv hd where
  nl := Nat.le_trans h.nl hn
  nh := Nat.le_trans h.nh hn
  ok x hx := by have := h.ok x hx; exact ⟨this.1, this.2.1, this.2.2.1, by omega⟩
  b d hd := by have := h.b d hd; exact ⟨this.1, by show d.length ≤ 140737488355328; omega⟩
theorem W_i64 (n : Int) : I64 (W n) := by
  show -9223372036854775808 ≤ IntKind.i64.wrap n ∧ IntKind.i64.wrap n < 9223372036854775808
  rw [IntKind.wrap_i64]; omega
theorem pick3_mem {P : Int → Prop} {a b c q : Int} (ha : P a) (hb : P b) (hc : P c) : P (pick3 a b c q) := by
  have hm := Xl (pick3_at a b c q)
  simp only [List.mem_cons, List.not_mem_nil, or_false] at hm
  rcases hm with h | h | h <;> rw [h] <;> assumption
theorem mem_set {α : Type} {l : List α} {k : Nat} {v x : α} {P : α → Prop} (hl : ∀ x ∈ l, P x) (hv : P v) (h : x ∈ l.set k v) : P x := by
  rcases List.mem_or_eq_of_mem_set h with h | h
  · exact hl x h
  · rw [h]; exact hv
theorem oddG_ok {n kd k h : Nat} {z : Int} {lv : List Lf} {hd : List (List Int)} {q2 : Int} (hs : ShB n lv hd) (h8 : 8 ≤ n) (hq : I64 q2) (hk : kd < 6 → k < lv.length) (hh : 6 < kd → kd < 9 → h < hd.length) : ShB (n + 1) (oddG kd k h z lv hd q2).leaves (oddG kd k h z lv hd q2).hid := by
  have hl0 : ∀ x ∈ lv, I64 x.ix ∧ I64 x.want ∧ B8 x.salt ∧ x.salt.length ≤ n + 1 := fun x hx => by have := hs.ok x hx; exact ⟨this.1, this.2.1, this.2.2.1, by omega⟩
  have hd0 : ∀ d ∈ hd, B8 d ∧ d.length ≤ n + 1 := fun d hd => by have := hs.b d hd; exact ⟨this.1, by omega⟩
  have h1 := hs.nl
  have h2 := hs.nh
  have set_ : ∀ (v : Lf), (I64 v.ix ∧ I64 v.want ∧ B8 v.salt ∧ v.salt.length ≤ n + 1) → ShB (n + 1) (lv.set k v) hd := fun v hv =>
    ⟨by rw [List.length_set]; omega, by omega, fun x hx => mem_set (P := fun x : Lf => I64 x.ix ∧ I64 x.want ∧ B8 x.salt ∧ x.salt.length ≤ n + 1) hl0 hv hx, hd0⟩
  have seth : ∀ (d : List Int), (B8 d ∧ d.length ≤ n + 1) → ShB (n + 1) lv (hd.set h d) := fun d hv =>
    ⟨by omega, by rw [List.length_set]; omega, hl0, fun x hx => mem_set (P := fun d : List Int => B8 d ∧ d.length ≤ n + 1) hd0 hv hx⟩
  have x120 : B8 [120] := b8_c
  match kd with
  | 0 => have hx := hl0 _ (Xl (lfK_at (hk (by decide)))); exact set_ _ hx
  | 1 => have hx := hl0 _ (Xl (lfK_at (hk (by decide)))); exact set_ _ hx
  | 2 => have hx := hl0 _ (Xl (lfK_at (hk (by decide)))); exact set_ _ ⟨hx.1, hq, hx.2.2⟩
  | 3 =>
    have hx := hs.ok _ (Xl (lfK_at (hk (by decide))))
    exact set_ _ ⟨hx.1, hx.2.1, b8_app hx.2.2.1 x120, by rw [List.length_append]; have := hx.2.2.2; simp only [List.length_cons, List.length_nil]; omega⟩
  | 4 => have hx := hl0 _ (Xl (lfK_at (hk (by decide)))); exact set_ _ ⟨pick3_mem hq (W_i64 _) (W_i64 _), hx.2⟩
  | 5 =>
    refine ⟨?_, by show hd.length ≤ _; omega, fun x hx => hl0 x ?_, hd0⟩
    · show (lv.take k ++ lv.drop (k + 1)).length ≤ _
      rw [List.length_append, List.length_take, List.length_drop]; omega
    · rcases List.mem_append.1 hx with hx | hx
      · exact List.mem_of_mem_take hx
      · exact List.mem_of_mem_drop hx
  | 6 => exact ⟨by show lv.length ≤ _; omega, by show hd.length ≤ _; omega, hl0, hd0⟩
  | 7 =>
    have hx := hs.b _ (Xl (hdK_at (hh (by decide) (by decide))))
    refine seth _ ⟨b8_app (fun y hy => hx.1 y (List.mem_of_mem_take hy)) (fun y hy => by rw [List.mem_singleton.1 hy]; exact b8_bd _), ?_⟩
    rw [List.length_append, List.length_take]; have := hx.2; simp only [List.length_cons, List.length_nil]; omega
  | 8 =>
    have hx := hs.b _ (Xl (hdK_at (hh (by decide) (by decide))))
    refine seth _ ⟨b8_app hx.1 x120, ?_⟩
    rw [List.length_append]; have := hx.2; simp only [List.length_cons, List.length_nil]; omega
  | 9 =>
    refine ⟨by show lv.length ≤ _; omega, by show (hd ++ [_]).length ≤ _; rw [List.length_append]; simp only [List.length_cons, List.length_nil]; omega, hl0, fun d hdm => ?_⟩
    rcases List.mem_append.1 hdm with hdm | hdm
    · exact hd0 d hdm
    · rw [List.mem_singleton.1 hdm]
      exact ⟨fun x hx => by simp only [List.mem_cons, List.not_mem_nil, or_false] at hx; omega, by simp only [List.length_cons, List.length_nil]; omega⟩
  | kd + 10 => exact ⟨by show lv.length ≤ _; omega, by show (hd.take _).length ≤ _; rw [List.length_take]; omega, hl0, fun d hdm => hd0 d (List.mem_of_mem_take hdm)⟩
theorem odd_k {x n : Int} (h : 0 ≤ n) : (modS x (max 1 n)).toNat < (max 1 n).toNat := by have := Jo x (max 1 n) (by omega); omega
/-- Odd keeps sizes small. -/
theorem odd_ok {n : Nat} {z : Int} {lv : List Lf} {hd : List (List Int)} {q0 q1 q2 : Int} (hs : ShB n lv hd) (h8 : 8 ≤ n) (hq : I64 q2) : ShB (n + 1) (XU z lv hd q0 q1 q2).leaves (XU z lv hd q0 q1 q2).hid := by
  unfold XU oddF
  split
  · exact ⟨Nat.le_succ_of_le hs.nl, Nat.le_succ_of_le hs.nh, fun x hx => by have := hs.ok x hx; exact ⟨this.1, this.2.1, this.2.2.1, by omega⟩, fun d hd => by have := hs.b d hd; exact ⟨this.1, by omega⟩⟩
  · rename_i hz
    have h1 := odd_k (x := q1) (n := (lv.length : Int)) (by omega)
    have h2 := odd_k (x := q1) (n := (hd.length : Int)) (by omega)
    exact oddG_ok hs h8 hq (fun hk => by have : lv.length ≠ 0 := fun e => hz (.inl ⟨hk, e⟩); omega) (fun hk1 hk2 => by have : hd.length ≠ 0 := fun e => hz (.inr ⟨hk1, hk2, e⟩); omega)
def mcv25 : MC := (.seq (.reg [oN 2 (.box 55 3 (.t 0)) [], oN 3 (.box 25 3 (.t 1)) [], oN 4 (.alloc 55 3 [(.int .i64 0), .nils, .nils]) []] false) (.seq (.reg [oN 9 (.ld true 3 (.t 2)) [], oN 10 (.call 31 [(.t 9)]) [0], oN 5 (.alloc 55 3 [(.int .i64 0), .nils, .nils]) [], ⟨none, (.st 3 (.t 5) (.t 10)), none, [2, 1, 1, 0, 1, 2]⟩] false) (.seq (.reg [oN 11 (.ixarr 3 1 (.t 3) (.c (.int .i64 1))) [], oD 12 1 11 [0], oA 13 1 5 [], oD 14 1 13 [2], oN 15 (.len (.t 14)) [3], oN 16 (.mx (.c (.int .i64 1)) (.t 15)) [4], oN 17 (.call 57 [(.t 12), (.t 16)]) [1, 5], oM 6 17 [6, 6, 0, 1, 2, 3, 4, 5, 6]] false) (.seq (.reg [oN 18 (.ixarr 3 1 (.t 3) (.c (.int .i64 1))) [], oD 19 1 18 [0], oA 20 2 5 [], oD 21 1 20 [2], oN 22 (.len (.t 21)) [3], oN 23 (.mx (.c (.int .i64 1)) (.t 22)) [4], oN 24 (.call 57 [(.t 19), (.t 23)]) [1, 5], oM 7 24 [6, 6, 0, 1, 2, 3, 4, 5, 6]] false) (.seq (.reg [oN 25 (.ixarr 3 1 (.t 3) (.c (.int .i64 0))) [], oD 26 1 25 [0], oN 27 (.call 57 [(.t 26), (.c (.int .i64 11))]) [1], oM 8 27 [2, 2, 0, 1, 2]] false) (.seq (.seq (.reg [oM 28 8 [], oN 29 (.bin .lss (.t 28) (.c (.int .i64 6))) [0], oM 30 29 [1], pA 31 1 5 30 true [2], pD 32 1 31 30 true [3, 2], oG 33 (.len (.t 32)) 30 true [4, 2], oG 34 (.bin .eql (.t 33) (.c (.int .i64 0))) 30 true [5, 2], oN 35 (.pick (.t 30) (.t 34) (.c (.bool false))) [2, 6], oM 36 35 [7, 2], pM 37 8 36 false [8], oG 38 (.bin .gtr (.t 37) (.c (.int .i64 6))) 36 false [9, 8], pM 39 38 36 false [10, 8, 8], pM 40 8 39 true [11], oG 41 (.bin .lss (.t 40) (.c (.int .i64 9))) 39 true [12, 11], oG 42 (.pick (.t 39) (.t 41) (.c (.bool false))) 36 false [11, 13, 8], pM 43 42 36 false [14, 11, 8], pA 44 2 5 43 true [15], pD 45 1 44 43 true [16, 15], oG 46 (.len (.t 45)) 43 true [17, 15], oG 47 (.bin .eql (.t 46) (.c (.int .i64 0))) 43 true [18, 15], oG 48 (.pick (.t 43) (.t 47) (.c (.bool false))) 36 false [15, 19, 8], oN 49 (.pick (.t 36) (.c (.bool true)) (.t 48)) [8, 20]] false) (.cond (.t 49) (.seq (.reg [oN 50 (.ixarr 3 1 (.t 3) (.c (.int .i64 2))) [], oD 51 1 50 [0], oN 52 (.call 57 [(.t 51), (.c (.int .i64 18))]) [1], oA 53 0 5 [0, 1, 2], ⟨none, (.st 1 (.t 53) (.t 52)), none, [3, 2, 2, 0, 1, 2]⟩] false) (.seq (.reg [oN 54 (.ld true 3 (.t 5)) [], ⟨none, (.st 3 (.t 4) (.t 54)), none, [0, 0]⟩] false) .ret)) .skip)) (.seq (.seq (.reg [oM 55 8 []] false) (.block 0 (.seq (.reg [oN 57 (.bin .eql (.t 55) (.c (.int .i64 0))) [], oM 56 57 [0]] false) (.cond (.t 56) (.reg [oA 58 1 5 [], oD 59 1 58 [0], oM 60 6 [], oA 61 1 5 [], oD 62 1 61 [3], oM 63 6 [], oN 64 (.ixsl 5 (.t 62) (.t 63)) [4, 5], oA 65 2 64 [6], oD 66 1 65 [7], oN 67 (.un .not (.t 66)) [8], oN 68 (.ixsl 5 (.t 59) (.t 60)) [1, 2, 0, 1, 2, 3, 4, 5, 6, 7, 8, 9], oA 69 2 68 [10, 0, 1, 2, 3, 4, 5, 6, 7, 8, 9], ⟨none, (.st 1 (.t 69) (.t 67)), none, [11, 9, 0, 1, 2, 3, 4, 5, 6, 7, 8, 9]⟩] true) (.seq (.reg [oN 71 (.bin .eql (.t 55) (.c (.int .i64 1))) [], oM 70 71 [0]] false) (.cond (.t 70) (.reg [oA 72 1 5 [], oD 73 1 72 [0], oM 74 6 [], oA 75 1 5 [], oD 76 1 75 [3], oM 77 6 [], oN 78 (.ixsl 5 (.t 76) (.t 77)) [4, 5], oA 79 3 78 [6], oD 80 1 79 [7], oN 81 (.un .not (.t 80)) [8], oN 82 (.ixsl 5 (.t 73) (.t 74)) [1, 2, 0, 1, 2, 3, 4, 5, 6, 7, 8, 9], oA 83 3 82 [10, 0, 1, 2, 3, 4, 5, 6, 7, 8, 9], ⟨none, (.st 1 (.t 83) (.t 81)), none, [11, 9, 0, 1, 2, 3, 4, 5, 6, 7, 8, 9]⟩] true) (.seq (.reg [oN 85 (.bin .eql (.t 55) (.c (.int .i64 2))) [], oM 84 85 [0]] false) (.cond (.t 84) (.reg [oA 86 1 5 [], oD 87 1 86 [0], oM 88 6 [], oN 89 (.ixarr 3 1 (.t 3) (.c (.int .i64 2))) [], oD 90 1 89 [3], oN 91 (.ixsl 5 (.t 87) (.t 88)) [1, 2, 0, 1, 2, 3, 4], oA 92 1 91 [5, 0, 1, 2, 3, 4], ⟨none, (.st 1 (.t 92) (.t 90)), none, [6, 4, 0, 1, 2, 3, 4]⟩] false) (.seq (.reg [oN 94 (.bin .eql (.t 55) (.c (.int .i64 3))) [], oM 93 94 [0]] false) (.cond (.t 93) (.reg [oA 95 1 5 [], oD 96 1 95 [0], oM 97 6 [], oA 98 1 5 [], oD 99 1 98 [3], oM 100 6 [], oN 101 (.ixsl 5 (.t 99) (.t 100)) [4, 5], oA 102 4 101 [6], oD 103 1 102 [7], oN 104 (.scat (.t 103) (.c (.str (Qu [120])))) [8], oN 105 (.ixsl 5 (.t 96) (.t 97)) [1, 2, 0, 1, 2, 3, 4, 5, 6, 7, 8, 9], oA 106 4 105 [10, 0, 1, 2, 3, 4, 5, 6, 7, 8, 9], ⟨none, (.st 1 (.t 106) (.t 104)), none, [11, 9, 0, 1, 2, 3, 4, 5, 6, 7, 8, 9]⟩] true) (.seq (.reg [oN 108 (.bin .eql (.t 55) (.c (.int .i64 4))) [], oM 107 108 [0]] false) (.cond (.t 107) (.reg [oA 109 1 5 [], oD 110 1 109 [0], oM 111 6 [], oN 112 (.ixarr 3 1 (.t 3) (.c (.int .i64 2))) [], oD 113 1 112 [3], oA 114 1 5 [], oD 115 1 114 [5], oM 116 6 [], oN 117 (.ixsl 5 (.t 115) (.t 116)) [6, 7], oA 118 0 117 [8], oD 119 1 118 [9], oN 120 (.bin .add (.t 119) (.c (.int .i64 1))) [10], oA 121 1 5 [], oD 122 1 121 [12], oM 123 6 [], oN 124 (.ixsl 5 (.t 122) (.t 123)) [13, 14], oA 125 0 124 [15], oD 126 1 125 [16], oN 127 (.bin .sub (.t 126) (.c (.int .i64 1))) [17], oN 128 (.bslice 3 1 [(.int .i64 0)] 3 [(0, (.t 113)), (1, (.t 120)), (2, (.t 127))]) [4, 11, 18], oN 129 (.ixarr 3 1 (.t 3) (.c (.int .i64 2))) [], oD 130 1 129 [20], oN 131 (.call 57 [(.t 130), (.c (.int .i64 3))]) [21], oN 132 (.ixsl 1 (.t 128) (.t 131)) [19, 22], oD 133 1 132 [23], oN 134 (.ixsl 5 (.t 110) (.t 111)) [1, 2, 0, 1, 2, 3, 4, 5, 6, 7, 8, 9, 10, 11, 12, 13, 14, 15, 16, 17, 18, 19, 20, 21, 22, 23, 24], oA 135 0 134 [25, 0, 1, 2, 3, 4, 5, 6, 7, 8, 9, 10, 11, 12, 13, 14, 15, 16, 17, 18, 19, 20, 21, 22, 23, 24], ⟨none, (.st 1 (.t 135) (.t 133)), none, [26, 24, 22, 0, 1, 2, 3, 4, 5, 6, 7, 8, 9, 10, 11, 12, 13, 14, 15, 16, 17, 18, 19, 20, 21, 22, 23, 24]⟩] true) (.seq (.reg [oN 137 (.bin .eql (.t 55) (.c (.int .i64 5))) [], oM 136 137 [0]] false) (.cond (.t 136) (.reg [oA 138 1 5 [], oD 139 1 138 [0], oM 140 6 [], oN 141 (.slc 5 (.t 139) none (some (.t 140))) [1, 2], oA 142 1 5 [], oD 143 1 142 [4], oM 144 6 [], oN 145 (.bin .add (.t 144) (.c (.int .i64 1))) [6], oN 146 (.slc 5 (.t 143) (some (.t 145)) none) [5, 7], oN 147 (.app 51 5 40 [(.int .i64 0), (.int .i64 0), (.bool false), (.bool false), (.str (Qu []))] (.t 141) (.t 146)) [3, 8], oA 148 1 5 [0, 1, 2, 3, 4, 5, 6, 7, 8, 9], ⟨none, (.st 1 (.t 148) (.t 147)), none, [10, 9, 9, 0, 1, 2, 3, 4, 5, 6, 7, 8, 9]⟩] true) (.seq (.reg [oN 150 (.bin .eql (.t 55) (.c (.int .i64 6))) [], oM 149 150 [0]] false) (.cond (.t 149) (.reg [oN 151 (.ixarr 3 1 (.t 3) (.c (.int .i64 2))) [], oD 152 1 151 [0], oA 153 0 5 [], oD 154 1 153 [2], oN 155 (.bin .add (.t 154) (.c (.int .i64 1))) [3], oA 156 0 5 [], oD 157 1 156 [5], oN 158 (.bin .sub (.t 157) (.c (.int .i64 1))) [6], oN 159 (.bslice 3 1 [(.int .i64 0)] 3 [(0, (.t 152)), (1, (.t 155)), (2, (.t 158))]) [1, 4, 7], oN 160 (.ixarr 3 1 (.t 3) (.c (.int .i64 2))) [], oD 161 1 160 [9], oN 162 (.call 57 [(.t 161), (.c (.int .i64 3))]) [10], oN 163 (.ixsl 1 (.t 159) (.t 162)) [8, 11], oD 164 1 163 [12], oA 165 0 5 [0, 1, 2, 3, 4, 5, 6, 7, 8, 9, 10, 11, 12, 13], ⟨none, (.st 1 (.t 165) (.t 164)), none, [14, 13, 11, 0, 1, 2, 3, 4, 5, 6, 7, 8, 9, 10, 11, 12, 13]⟩] true) (.seq (.reg [oN 167 (.bin .eql (.t 55) (.c (.int .i64 7))) [], oM 166 167 [0]] false) (.cond (.t 166) (.reg [oA 168 2 5 [], oD 169 1 168 [0], oM 170 7 [], oA 171 2 5 [], oD 172 1 171 [3], oM 173 7 [], oN 174 (.ixsl 1 (.t 172) (.t 173)) [4, 5], oD 175 1 174 [6], oA 176 2 5 [], oD 177 1 176 [8], oM 178 7 [], oN 179 (.ixsl 1 (.t 177) (.t 178)) [9, 10], oD 180 1 179 [11], oN 181 (.slen (.t 180)) [12], oN 182 (.bin .sub (.t 181) (.c (.int .i64 1))) [13], oN 183 (.mx (.c (.int .i64 0)) (.t 182)) [14], oN 184 (.stake (.t 175) (.t 183)) [7, 15], oN 185 (.ixarr 3 1 (.t 3) (.c (.int .i64 2))) [], oD 186 1 185 [17], oN 187 (.cvt .u8 (.t 186)) [18], oN 188 (.bslice 5 1 [(.int .u8 0)] 1 [(0, (.t 187))]) [19], oN 189 (.b2s (.t 188)) [20], oN 190 (.scat (.t 184) (.t 189)) [16, 21], oN 191 (.ixsl 1 (.t 169) (.t 170)) [1, 2, 0, 1, 2, 3, 4, 5, 6, 7, 8, 9, 10, 11, 12, 13, 14, 15, 16, 17, 18, 19, 20, 21, 22], ⟨none, (.st 1 (.t 191) (.t 190)), none, [23, 22, 0, 1, 2, 3, 4, 5, 6, 7, 8, 9, 10, 11, 12, 13, 14, 15, 16, 17, 18, 19, 20, 21, 22]⟩] true) (.seq (.reg [oN 193 (.bin .eql (.t 55) (.c (.int .i64 8))) [], oM 192 193 [0]] false) (.cond (.t 192) (.reg [oA 194 2 5 [], oD 195 1 194 [0], oM 196 7 [], oA 197 2 5 [], oD 198 1 197 [3], oM 199 7 [], oN 200 (.ixsl 1 (.t 198) (.t 199)) [4, 5], oD 201 1 200 [6], oN 202 (.scat (.t 201) (.c (.str (Qu [120])))) [7], oN 203 (.ixsl 1 (.t 195) (.t 196)) [1, 2, 0, 1, 2, 3, 4, 5, 6, 7, 8], ⟨none, (.st 1 (.t 203) (.t 202)), none, [9, 8, 0, 1, 2, 3, 4, 5, 6, 7, 8]⟩] true) (.seq (.reg [oN 205 (.bin .eql (.t 55) (.c (.int .i64 9))) [], oM 204 205 [0]] false) (.cond (.t 204) (.reg [oA 206 2 5 [], oD 207 1 206 [0], oN 208 (.bslice 9 1 [(.str (Qu []))] 1 [(0, (.c (.str (Qu [49, 50, 51, 52, 53, 54, 55, 56]))))]) [], oN 209 (.app 9 1 16 [(.str (Qu []))] (.t 207) (.t 208)) [1, 2], oA 210 2 5 [0, 1, 2, 3], ⟨none, (.st 1 (.t 210) (.t 209)), none, [4, 3, 3, 0, 1, 2, 3]⟩] false) (.seq (.reg [oN 212 (.bin .eql (.t 55) (.c (.int .i64 10))) [], oM 211 212 [0]] false) (.cond (.t 211) (.reg [oA 213 2 5 [], oD 214 1 213 [0], oA 215 2 5 [], oD 216 1 215 [2], oN 217 (.len (.t 216)) [3], oN 218 (.bin .quo (.t 217) (.c (.int .i64 2))) [4], oN 219 (.slc 1 (.t 214) none (some (.t 218))) [1, 5], oA 220 2 5 [0, 1, 2, 3, 4, 5, 6], ⟨none, (.st 1 (.t 220) (.t 219)), none, [7, 6, 0, 1, 2, 3, 4, 5, 6]⟩] false) .skip)))))))))))))))))))))))) (.seq (.reg [oN 221 (.ld true 3 (.t 5)) [], ⟨none, (.st 3 (.t 4) (.t 221)), none, [0, 0]⟩] false) .ret))))))))
theorem mcOkv25 : (match Tryz.f25.body with | some c => Q2 Tryz.prog 222 c | none => none) = some mcv25 := by kernel_rfl
set_option maxHeartbeats 4000000 in
theorem vc25 (z : Int) (lv : List Lf) (hd : List (List Int)) (h : ShOK lv hd) (q0 q1 q2 : Int) : FC Tryz.prog 25 [.agg [.int .i64 z, .rs 5 (lv.map cLf), .rs 1 (hd.map cS)], .agg [iv q0, iv q1, iv q2]] [] (.agg (cSh (XU z lv hd q0 q1 q2))) [] false := by
  have hnl := h.nl
  have hnh := h.nh
  unfold XU oddF
  have hk0 := odd_k (x := q1) (n := (lv.length : Int)) (by omega)
  have hh0 := odd_k (x := q1) (n := (hd.length : Int)) (by omega)
  have hkk := (Int.toNat_of_nonneg (Jo q1 (max 1 (lv.length : Int)) (by omega)).1).symm
  have hhh := (Int.toNat_of_nonneg (Jo q1 (max 1 (hd.length : Int)) (by omega)).1).symm
  have hdd := (Int.toNat_of_nonneg (Jo q0 11 (by decide)).1).symm
  have hd1 := Jo q0 11 (by decide)
  generalize (modS q1 (max 1 (lv.length : Int))).toNat = k at hk0 hkk ⊢
  generalize (modS q1 (max 1 (hd.length : Int))).toNat = m at hh0 hhh ⊢
  generalize (modS q0 11).toNat = kd at hdd ⊢
  refine Qs (nt := 222) Tryz.func25 rfl rfl mcOkv25 (nL rfl) ?_
  delta mcv25
  refine Qb (Qc (Qf 3 rfl (Qa fun _ => Qd (Qb (Qc (Qo rfl rfl rfl rfl (nL rfl) rfl (Qi [] rfl rfl (vc31 z lv hd h.nl h.nh) (.cons (Qg rfl) .nil) rfl (QF rfl rfl rfl ?_))))))))
  refine Q0 rfl rfl rfl rfl rfl rfl rfl (nL rfl) rfl rfl (Qa fun _ => Qd (Qb (Qc (Q7 rfl rfl rfl (by decide) (by decide) (Qf 3 rfl (Xu rfl rfl (rs_mx rfl rfl rfl rfl (Qi [] rfl rfl (fc16 q1 (max 1 (lv.length : Int)) (by omega)) (.cons (Qg rfl) (.cons (Qg rfl) (.nil))) rfl ?_))))))))
  rw [hkk]
  refine Qe rfl rfl (Qa fun _ => Qd (Qb (Qc (Q7 rfl rfl rfl (by decide) (by decide) (Qf 3 rfl (Xu rfl rfl (rs_mx rfl rfl rfl rfl (Qi [] rfl rfl (fc16 q1 (max 1 (hd.length : Int)) (by omega)) (.cons (Qg rfl) (.cons (Qg rfl) (.nil))) rfl ?_))))))))
  rw [hhh]
  refine Qe rfl rfl (Qa fun _ => Qd (Qb (Qc (Q7 rfl rfl rfl (by decide) (by decide) (QY rfl rfl rfl rfl rfl ?_)))))
  obtain rfl | rfl | rfl | rfl | rfl | rfl | rfl | rfl | rfl | rfl | rfl : kd = 0 ∨ kd = 1 ∨ kd = 2 ∨ kd = 3 ∨ kd = 4 ∨ kd = 5 ∨ kd = 6 ∨ kd = 7 ∨ kd = 8 ∨ kd = 9 ∨ kd = 10 := by omega
  · skip
    refine Qi [] rfl rfl (fc16 q0 11 (by decide)) (.cons (Qg rfl) (.cons (Qg rfl) (.nil))) rfl ?_
    rw [hdd]
    refine Qe rfl rfl (Qa fun _ => Qd (Qb (Qb (Qc (Qe rfl rfl (QT rfl rfl rfl rfl (by decide) (Qf 3 rfl (Xu rfl rfl ?_))))))))
    refine QE rfl rfl rfl rfl (fun h34 => ?_) (fun h34 => ?_)
    · skip
      refine Qf 15 rfl (Qa fun _ => Qd (Qh rfl (fun _ => ?_) (fun h => by cases h)))
      refine Qb (Qc (Q7 rfl rfl rfl (by decide) (by decide) (QY rfl rfl rfl rfl rfl (Qi [] rfl rfl (fc16 q2 18 (by decide)) (.cons (Qg rfl) (.cons (Qg rfl) (.nil))) rfl (Q9 rfl rfl (Q0 rfl rfl rfl rfl rfl rfl rfl (nL rfl) rfl rfl (Qa fun _ => Qd (Qb ?_))))))))
      refine Qc (Qo rfl rfl rfl rfl (nL rfl) rfl (Q0 rfl rfl rfl rfl rfl rfl rfl (nL rfl) rfl rfl (Qa fun _ => Qd (Ql (Q1 ?_)))))
      rw [if_pos (show XZ 0 lv.length hd.length from by unfold XZ; omega)]
      exact Q5 rfl (Xg (.cons (Q6 rfl (.inr rfl)) (.cons (QK (f := cLf) (xs := lv) rfl rfl rfl (fun _ => rfl)) (.cons (QK (f := cS) (xs := hd) rfl rfl rfl (fun _ => rfl)) .nil)))) .nil
    · skip
      refine Qf 3 rfl (Qz rfl rfl rfl rfl (by decide) (Qf 11 rfl (Qa fun _ => Qd (Qh rfl (fun h => by cases h) (fun _ => ?_)))))
      refine Qn (Qd (Qb (Qb (Qc (Qe rfl rfl (Qa fun _ => Qd (Qm (Qb ?_))))))))
      refine Qc (QT rfl rfl rfl rfl (by decide) (Qe rfl rfl (Qa fun _ => Qd (Qh rfl (fun _ => ?_) (fun h => by cases h)))))
      refine Q8 Xr (Q9 rfl rfl ?_)
      have hkl : k < lv.length := by omega
      have hxk := lfK_at hkl
      have hxm := Xl hxk
      have hxg : lv[k] = lfK lv k := (List.getElem?_eq_some_iff.1 hxk).2
      refine Qf 5 rfl (X8 rfl rfl rfl rfl (by omega) (by omega) (Q9 rfl rfl (rs_ld_g (f := cLf) (xs := lv) (y := lfK lv k) rfl rfl rfl hxk rfl (rs_not rfl rfl (X8 rfl rfl rfl rfl (by omega) (by omega) (Q9 rfl rfl (rs_st_m (f := cLf) (xs := lv) (t := k) (v := ⟨(lfK lv k).ix, (lfK lv k).want, !(lfK lv k).sure, (lfK lv k).touched, (lfK lv k).salt⟩) (fl' := true) rfl rfl rfl rfl hkl rfl rfl (nL rfl) (by rw [hxg]; rfl) rfl (Qa ⟨by kernel_rfl, fun _ => ?_⟩))))))))
      refine QI (Qd (Qb (Qc (Qo rfl rfl rfl rfl (nL rfl) rfl (Q0 rfl rfl rfl rfl rfl rfl rfl (nL rfl) rfl rfl (Qa fun _ => Qd (Ql ?_)))))))
      rw [if_neg (show ¬ XZ 0 lv.length hd.length from by unfold XZ; omega)]
      exact Q5 rfl (Xg (.cons (Q6 rfl (.inr rfl)) (.cons (QK (f := cLf) (xs := (oddG 0 k m z lv hd q2).leaves) rfl rfl (by simp [oddG]) (fun _ => rfl)) (.cons (QK (f := cS) (xs := hd) rfl rfl rfl (fun _ => rfl)) .nil)))) .nil
  · skip
    refine Qi [] rfl rfl (fc16 q0 11 (by decide)) (.cons (Qg rfl) (.cons (Qg rfl) (.nil))) rfl ?_
    rw [hdd]
    refine Qe rfl rfl (Qa fun _ => Qd (Qb (Qb (Qc (Qe rfl rfl (QT rfl rfl rfl rfl (by decide) (Qf 3 rfl (Xu rfl rfl ?_))))))))
    refine QE rfl rfl rfl rfl (fun h34 => ?_) (fun h34 => ?_)
    · skip
      refine Qf 15 rfl (Qa fun _ => Qd (Qh rfl (fun _ => ?_) (fun h => by cases h)))
      refine Qb (Qc (Q7 rfl rfl rfl (by decide) (by decide) (QY rfl rfl rfl rfl rfl (Qi [] rfl rfl (fc16 q2 18 (by decide)) (.cons (Qg rfl) (.cons (Qg rfl) (.nil))) rfl (Q9 rfl rfl (Q0 rfl rfl rfl rfl rfl rfl rfl (nL rfl) rfl rfl (Qa fun _ => Qd (Qb ?_))))))))
      refine Qc (Qo rfl rfl rfl rfl (nL rfl) rfl (Q0 rfl rfl rfl rfl rfl rfl rfl (nL rfl) rfl rfl (Qa fun _ => Qd (Ql (Q1 ?_)))))
      rw [if_pos (show XZ 1 lv.length hd.length from by unfold XZ; omega)]
      exact Q5 rfl (Xg (.cons (Q6 rfl (.inr rfl)) (.cons (QK (f := cLf) (xs := lv) rfl rfl rfl (fun _ => rfl)) (.cons (QK (f := cS) (xs := hd) rfl rfl rfl (fun _ => rfl)) .nil)))) .nil
    · skip
      refine Qf 3 rfl (Qz rfl rfl rfl rfl (by decide) (Qf 11 rfl (Qa fun _ => Qd (Qh rfl (fun h => by cases h) (fun _ => ?_)))))
      refine Qn (Qd (Qb (Qb (Qc (Qe rfl rfl (Qa fun _ => Qd (Qm (Qb ?_))))))))
      refine Qc (Qz rfl rfl rfl rfl (by decide) (Qe rfl rfl (Qa fun _ => Qd (Qh rfl (fun h => by cases h) (fun _ => ?_)))))
      refine Qb (Qc (QT rfl rfl rfl rfl (by decide) (Qe rfl rfl (Qa fun _ => Qd (Qh rfl (fun _ => ?_) (fun h => by cases h))))))
      refine Q8 Xr (Q9 rfl rfl ?_)
      have hkl : k < lv.length := by omega
      have hxk := lfK_at hkl
      have hxm := Xl hxk
      have hxg : lv[k] = lfK lv k := (List.getElem?_eq_some_iff.1 hxk).2
      refine Qf 5 rfl (X8 rfl rfl rfl rfl (by omega) (by omega) (Q9 rfl rfl (rs_ld_g (f := cLf) (xs := lv) (y := lfK lv k) rfl rfl rfl hxk rfl (rs_not rfl rfl (X8 rfl rfl rfl rfl (by omega) (by omega) (Q9 rfl rfl (rs_st_m (f := cLf) (xs := lv) (t := k) (v := ⟨(lfK lv k).ix, (lfK lv k).want, (lfK lv k).sure, !(lfK lv k).touched, (lfK lv k).salt⟩) (fl' := true) rfl rfl rfl rfl hkl rfl rfl (nL rfl) (by rw [hxg]; rfl) rfl (Qa ⟨by kernel_rfl, fun _ => ?_⟩))))))))
      refine QI (Qd (Qb (Qc (Qo rfl rfl rfl rfl (nL rfl) rfl (Q0 rfl rfl rfl rfl rfl rfl rfl (nL rfl) rfl rfl (Qa fun _ => Qd (Ql ?_)))))))
      rw [if_neg (show ¬ XZ 1 lv.length hd.length from by unfold XZ; omega)]
      exact Q5 rfl (Xg (.cons (Q6 rfl (.inr rfl)) (.cons (QK (f := cLf) (xs := (oddG 1 k m z lv hd q2).leaves) rfl rfl (by simp [oddG]) (fun _ => rfl)) (.cons (QK (f := cS) (xs := hd) rfl rfl rfl (fun _ => rfl)) .nil)))) .nil
  · skip
    refine Qi [] rfl rfl (fc16 q0 11 (by decide)) (.cons (Qg rfl) (.cons (Qg rfl) (.nil))) rfl ?_
    rw [hdd]
    refine Qe rfl rfl (Qa fun _ => Qd (Qb (Qb (Qc (Qe rfl rfl (QT rfl rfl rfl rfl (by decide) (Qf 3 rfl (Xu rfl rfl ?_))))))))
    refine QE rfl rfl rfl rfl (fun h34 => ?_) (fun h34 => ?_)
    · skip
      refine Qf 15 rfl (Qa fun _ => Qd (Qh rfl (fun _ => ?_) (fun h => by cases h)))
      refine Qb (Qc (Q7 rfl rfl rfl (by decide) (by decide) (QY rfl rfl rfl rfl rfl (Qi [] rfl rfl (fc16 q2 18 (by decide)) (.cons (Qg rfl) (.cons (Qg rfl) (.nil))) rfl (Q9 rfl rfl (Q0 rfl rfl rfl rfl rfl rfl rfl (nL rfl) rfl rfl (Qa fun _ => Qd (Qb ?_))))))))
      refine Qc (Qo rfl rfl rfl rfl (nL rfl) rfl (Q0 rfl rfl rfl rfl rfl rfl rfl (nL rfl) rfl rfl (Qa fun _ => Qd (Ql (Q1 ?_)))))
      rw [if_pos (show XZ 2 lv.length hd.length from by unfold XZ; omega)]
      exact Q5 rfl (Xg (.cons (Q6 rfl (.inr rfl)) (.cons (QK (f := cLf) (xs := lv) rfl rfl rfl (fun _ => rfl)) (.cons (QK (f := cS) (xs := hd) rfl rfl rfl (fun _ => rfl)) .nil)))) .nil
    · skip
      refine Qf 3 rfl (Qz rfl rfl rfl rfl (by decide) (Qf 11 rfl (Qa fun _ => Qd (Qh rfl (fun h => by cases h) (fun _ => ?_)))))
      refine Qn (Qd (Qb (Qb (Qc (Qe rfl rfl (Qa fun _ => Qd (Qm (Qb ?_))))))))
      refine Qc (Qz rfl rfl rfl rfl (by decide) (Qe rfl rfl (Qa fun _ => Qd (Qh rfl (fun h => by cases h) (fun _ => ?_)))))
      refine Qb (Qc (Qz rfl rfl rfl rfl (by decide) (Qe rfl rfl (Qa fun _ => Qd (Qh rfl (fun h => by cases h) (fun _ => ?_))))))
      refine Qb (Qc (QT rfl rfl rfl rfl (by decide) (Qe rfl rfl (Qa fun _ => Qd (Qh rfl (fun _ => ?_) (fun h => by cases h))))))
      refine Qc (Q9 rfl rfl ?_)
      have hkl : k < lv.length := by omega
      have hxk := lfK_at hkl
      have hxm := Xl hxk
      have hxg : lv[k] = lfK lv k := (List.getElem?_eq_some_iff.1 hxk).2
      refine Qf 2 rfl (Q7 rfl rfl rfl (by decide) (by decide) (QY rfl rfl rfl rfl rfl (X8 rfl rfl rfl rfl (by omega) (by omega) (Q9 rfl rfl (rs_st_m (f := cLf) (xs := lv) (t := k) (v := ⟨(lfK lv k).ix, q2, (lfK lv k).sure, (lfK lv k).touched, (lfK lv k).salt⟩) (fl' := true) rfl rfl rfl rfl hkl rfl rfl (nL rfl) (by rw [hxg]; rfl) rfl (Qa fun _ => QI (Qd (Qb ?_))))))))
      refine Qc (Qo rfl rfl rfl rfl (nL rfl) rfl (Q0 rfl rfl rfl rfl rfl rfl rfl (nL rfl) rfl rfl (Qa fun _ => Qd (Ql ?_))))
      rw [if_neg (show ¬ XZ 2 lv.length hd.length from by unfold XZ; omega)]
      exact Q5 rfl (Xg (.cons (Q6 rfl (.inr rfl)) (.cons (QK (f := cLf) (xs := (oddG 2 k m z lv hd q2).leaves) rfl rfl (by simp [oddG]) (fun _ => rfl)) (.cons (QK (f := cS) (xs := hd) rfl rfl rfl (fun _ => rfl)) .nil)))) .nil
  · skip
    refine Qi [] rfl rfl (fc16 q0 11 (by decide)) (.cons (Qg rfl) (.cons (Qg rfl) (.nil))) rfl ?_
    rw [hdd]
    refine Qe rfl rfl (Qa fun _ => Qd (Qb (Qb (Qc (Qe rfl rfl (QT rfl rfl rfl rfl (by decide) (Qf 3 rfl (Xu rfl rfl ?_))))))))
    refine QE rfl rfl rfl rfl (fun h34 => ?_) (fun h34 => ?_)
    · skip
      refine Qf 15 rfl (Qa fun _ => Qd (Qh rfl (fun _ => ?_) (fun h => by cases h)))
      refine Qb (Qc (Q7 rfl rfl rfl (by decide) (by decide) (QY rfl rfl rfl rfl rfl (Qi [] rfl rfl (fc16 q2 18 (by decide)) (.cons (Qg rfl) (.cons (Qg rfl) (.nil))) rfl (Q9 rfl rfl (Q0 rfl rfl rfl rfl rfl rfl rfl (nL rfl) rfl rfl (Qa fun _ => Qd (Qb ?_))))))))
      refine Qc (Qo rfl rfl rfl rfl (nL rfl) rfl (Q0 rfl rfl rfl rfl rfl rfl rfl (nL rfl) rfl rfl (Qa fun _ => Qd (Ql (Q1 ?_)))))
      rw [if_pos (show XZ 3 lv.length hd.length from by unfold XZ; omega)]
      exact Q5 rfl (Xg (.cons (Q6 rfl (.inr rfl)) (.cons (QK (f := cLf) (xs := lv) rfl rfl rfl (fun _ => rfl)) (.cons (QK (f := cS) (xs := hd) rfl rfl rfl (fun _ => rfl)) .nil)))) .nil
    · skip
      refine Qf 3 rfl (Qz rfl rfl rfl rfl (by decide) (Qf 11 rfl (Qa fun _ => Qd (Qh rfl (fun h => by cases h) (fun _ => ?_)))))
      refine Qn (Qd (Qb (Qb (Qc (Qe rfl rfl (Qa fun _ => Qd (Qm (Qb ?_))))))))
      refine Qc (Qz rfl rfl rfl rfl (by decide) (Qe rfl rfl (Qa fun _ => Qd (Qh rfl (fun h => by cases h) (fun _ => ?_)))))
      refine Qb (Qc (Qz rfl rfl rfl rfl (by decide) (Qe rfl rfl (Qa fun _ => Qd (Qh rfl (fun h => by cases h) (fun _ => ?_))))))
      refine Qb (Qc (Qz rfl rfl rfl rfl (by decide) (Qe rfl rfl (Qa fun _ => Qd (Qh rfl (fun h => by cases h) (fun _ => ?_))))))
      refine Qb (Qc (QT rfl rfl rfl rfl (by decide) (Qe rfl rfl (Qa fun _ => Qd (Qh rfl (fun _ => ?_) (fun h => by cases h))))))
      refine Q8 Xr (Q9 rfl rfl ?_)
      have hkl : k < lv.length := by omega
      have hxk := lfK_at hkl
      have hxm := Xl hxk
      have hxg : lv[k] = lfK lv k := (List.getElem?_eq_some_iff.1 hxk).2
      refine Qf 5 rfl (X8 rfl rfl rfl rfl (by omega) (by omega) (Q9 rfl rfl (rs_ld_g (f := cLf) (xs := lv) (y := lfK lv k) rfl rfl rfl hxk rfl (XF (c := (lfK lv k).salt ++ [120]) rfl rfl rfl (by have := (h.ok _ hxm).n; simp only [List.length_cons, List.length_nil]; omega) rfl (X8 rfl rfl rfl rfl (by omega) (by omega) (Q9 rfl rfl (rs_st_m (f := cLf) (xs := lv) (t := k) (v := ⟨(lfK lv k).ix, (lfK lv k).want, (lfK lv k).sure, (lfK lv k).touched, (lfK lv k).salt ++ [120]⟩) (fl' := true) rfl rfl rfl rfl hkl rfl rfl (nL rfl) (by rw [hxg]; rfl) rfl (Qa ⟨by kernel_rfl, fun _ => ?_⟩))))))))
      refine QI (Qd (Qb (Qc (Qo rfl rfl rfl rfl (nL rfl) rfl (Q0 rfl rfl rfl rfl rfl rfl rfl (nL rfl) rfl rfl (Qa fun _ => Qd (Ql ?_)))))))
      rw [if_neg (show ¬ XZ 3 lv.length hd.length from by unfold XZ; omega)]
      exact Q5 rfl (Xg (.cons (Q6 rfl (.inr rfl)) (.cons (QK (f := cLf) (xs := (oddG 3 k m z lv hd q2).leaves) rfl rfl (by simp [oddG]) (fun _ => rfl)) (.cons (QK (f := cS) (xs := hd) rfl rfl rfl (fun _ => rfl)) .nil)))) .nil
  · skip
    refine Qi [] rfl rfl (fc16 q0 11 (by decide)) (.cons (Qg rfl) (.cons (Qg rfl) (.nil))) rfl ?_
    rw [hdd]
    refine Qe rfl rfl (Qa fun _ => Qd (Qb (Qb (Qc (Qe rfl rfl (QT rfl rfl rfl rfl (by decide) (Qf 3 rfl (Xu rfl rfl ?_))))))))
    refine QE rfl rfl rfl rfl (fun h34 => ?_) (fun h34 => ?_)
    · skip
      refine Qf 15 rfl (Qa fun _ => Qd (Qh rfl (fun _ => ?_) (fun h => by cases h)))
      refine Qb (Qc (Q7 rfl rfl rfl (by decide) (by decide) (QY rfl rfl rfl rfl rfl (Qi [] rfl rfl (fc16 q2 18 (by decide)) (.cons (Qg rfl) (.cons (Qg rfl) (.nil))) rfl (Q9 rfl rfl (Q0 rfl rfl rfl rfl rfl rfl rfl (nL rfl) rfl rfl (Qa fun _ => Qd (Qb ?_))))))))
      refine Qc (Qo rfl rfl rfl rfl (nL rfl) rfl (Q0 rfl rfl rfl rfl rfl rfl rfl (nL rfl) rfl rfl (Qa fun _ => Qd (Ql (Q1 ?_)))))
      rw [if_pos (show XZ 4 lv.length hd.length from by unfold XZ; omega)]
      exact Q5 rfl (Xg (.cons (Q6 rfl (.inr rfl)) (.cons (QK (f := cLf) (xs := lv) rfl rfl rfl (fun _ => rfl)) (.cons (QK (f := cS) (xs := hd) rfl rfl rfl (fun _ => rfl)) .nil)))) .nil
    · skip
      refine Qf 3 rfl (Qz rfl rfl rfl rfl (by decide) (Qf 11 rfl (Qa fun _ => Qd (Qh rfl (fun h => by cases h) (fun _ => ?_)))))
      refine Qn (Qd (Qb (Qb (Qc (Qe rfl rfl (Qa fun _ => Qd (Qm (Qb ?_))))))))
      refine Qc (Qz rfl rfl rfl rfl (by decide) (Qe rfl rfl (Qa fun _ => Qd (Qh rfl (fun h => by cases h) (fun _ => ?_)))))
      refine Qb (Qc (Qz rfl rfl rfl rfl (by decide) (Qe rfl rfl (Qa fun _ => Qd (Qh rfl (fun h => by cases h) (fun _ => ?_))))))
      refine Qb (Qc (Qz rfl rfl rfl rfl (by decide) (Qe rfl rfl (Qa fun _ => Qd (Qh rfl (fun h => by cases h) (fun _ => ?_))))))
      refine Qb (Qc (Qz rfl rfl rfl rfl (by decide) (Qe rfl rfl (Qa fun _ => Qd (Qh rfl (fun h => by cases h) (fun _ => ?_))))))
      refine Qb (Qc (QT rfl rfl rfl rfl (by decide) (Qe rfl rfl (Qa fun _ => Qd (Qh rfl (fun _ => ?_) (fun h => by cases h))))))
      refine Q8 Xr (Q9 rfl rfl ?_)
      have hkl : k < lv.length := by omega
      have hxk := lfK_at hkl
      have hxm := Xl hxk
      have hxg : lv[k] = lfK lv k := (List.getElem?_eq_some_iff.1 hxk).2
      have hp3 := Jo q2 3 (by decide)
      refine Qf 2 rfl (Q7 rfl rfl rfl (by decide) (by decide) (Qf 4 rfl (X8 rfl rfl rfl rfl (by omega) (by omega) (Q9 rfl rfl (rs_ld_g (f := cLf) (xs := lv) (y := lfK lv k) rfl rfl rfl hxk rfl (Xi rfl rfl rfl rfl (Qf 3 rfl (X8 rfl rfl rfl rfl (by omega) (by omega) (Q9 rfl rfl ?_)))))))))
      refine rs_ld_g (f := cLf) (xs := lv) (y := lfK lv k) rfl rfl rfl hxk rfl (Jv rfl rfl rfl rfl (Qv (l := (([q2, W ((lfK lv k).ix + 1), W ((lfK lv k).ix - 1)] : List Int)).flatMap civ) (els := (([q2, W ((lfK lv k).ix + 1), W ((lfK lv k).ix - 1)] : List Int)).map civ) (fl := true) rfl (by kernel_rfl) rfl rfl (by kernel_rfl) (by kernel_rfl) (Q7 rfl rfl rfl (by decide) (by decide) (QY rfl rfl rfl rfl rfl (Qi [] rfl rfl (fc16 q2 3 (by decide)) (.cons (Qg rfl) (.cons (Qg rfl) (.nil))) rfl (X8 rfl rfl rfl rfl hp3.1 hp3.2 (rs_ld_g (f := civ) (xs := ([q2, W ((lfK lv k).ix + 1), W ((lfK lv k).ix - 1)] : List Int)) (y := pick3 q2 (W ((lfK lv k).ix + 1)) (W ((lfK lv k).ix - 1)) q2) rfl rfl rfl (pick3_at _ _ _ _) rfl (X8 rfl rfl rfl rfl (by omega) (by omega) (Q9 rfl rfl ?_)))))))))
      refine rs_st_m (f := cLf) (xs := lv) (t := k) (v := ⟨pick3 q2 (W ((lfK lv k).ix + 1)) (W ((lfK lv k).ix - 1)) q2, (lfK lv k).want, (lfK lv k).sure, (lfK lv k).touched, (lfK lv k).salt⟩) (fl' := true) rfl rfl rfl rfl hkl rfl rfl (nL rfl) (by rw [hxg]; rfl) rfl (Qa ⟨by kernel_rfl, fun _ => ?_⟩)
      refine QI (Qd (Qb (Qc (Qo rfl rfl rfl rfl (nL rfl) rfl (Q0 rfl rfl rfl rfl rfl rfl rfl (nL rfl) rfl rfl (Qa fun _ => Qd (Ql ?_)))))))
      rw [if_neg (show ¬ XZ 4 lv.length hd.length from by unfold XZ; omega)]
      exact Q5 rfl (Xg (.cons (Q6 rfl (.inr rfl)) (.cons (QK (f := cLf) (xs := (oddG 4 k m z lv hd q2).leaves) rfl rfl (by simp [oddG]) (fun _ => rfl)) (.cons (QK (f := cS) (xs := hd) rfl rfl rfl (fun _ => rfl)) .nil)))) .nil
  · skip
    refine Qi [] rfl rfl (fc16 q0 11 (by decide)) (.cons (Qg rfl) (.cons (Qg rfl) (.nil))) rfl ?_
    rw [hdd]
    refine Qe rfl rfl (Qa fun _ => Qd (Qb (Qb (Qc (Qe rfl rfl (QT rfl rfl rfl rfl (by decide) (Qf 3 rfl (Xu rfl rfl ?_))))))))
    refine QE rfl rfl rfl rfl (fun h34 => ?_) (fun h34 => ?_)
    · skip
      refine Qf 15 rfl (Qa fun _ => Qd (Qh rfl (fun _ => ?_) (fun h => by cases h)))
      refine Qb (Qc (Q7 rfl rfl rfl (by decide) (by decide) (QY rfl rfl rfl rfl rfl (Qi [] rfl rfl (fc16 q2 18 (by decide)) (.cons (Qg rfl) (.cons (Qg rfl) (.nil))) rfl (Q9 rfl rfl (Q0 rfl rfl rfl rfl rfl rfl rfl (nL rfl) rfl rfl (Qa fun _ => Qd (Qb ?_))))))))
      refine Qc (Qo rfl rfl rfl rfl (nL rfl) rfl (Q0 rfl rfl rfl rfl rfl rfl rfl (nL rfl) rfl rfl (Qa fun _ => Qd (Ql (Q1 ?_)))))
      rw [if_pos (show XZ 5 lv.length hd.length from by unfold XZ; omega)]
      exact Q5 rfl (Xg (.cons (Q6 rfl (.inr rfl)) (.cons (QK (f := cLf) (xs := lv) rfl rfl rfl (fun _ => rfl)) (.cons (QK (f := cS) (xs := hd) rfl rfl rfl (fun _ => rfl)) .nil)))) .nil
    · skip
      refine Qf 3 rfl (Qz rfl rfl rfl rfl (by decide) (Qf 11 rfl (Qa fun _ => Qd (Qh rfl (fun h => by cases h) (fun _ => ?_)))))
      refine Qn (Qd (Qb (Qb (Qc (Qe rfl rfl (Qa fun _ => Qd (Qm (Qb ?_))))))))
      refine Qc (Qz rfl rfl rfl rfl (by decide) (Qe rfl rfl (Qa fun _ => Qd (Qh rfl (fun h => by cases h) (fun _ => ?_)))))
      refine Qb (Qc (Qz rfl rfl rfl rfl (by decide) (Qe rfl rfl (Qa fun _ => Qd (Qh rfl (fun h => by cases h) (fun _ => ?_))))))
      refine Qb (Qc (Qz rfl rfl rfl rfl (by decide) (Qe rfl rfl (Qa fun _ => Qd (Qh rfl (fun h => by cases h) (fun _ => ?_))))))
      refine Qb (Qc (Qz rfl rfl rfl rfl (by decide) (Qe rfl rfl (Qa fun _ => Qd (Qh rfl (fun h => by cases h) (fun _ => ?_))))))
      refine Qb (Qc (Qz rfl rfl rfl rfl (by decide) (Qe rfl rfl (Qa fun _ => Qd (Qh rfl (fun h => by cases h) (fun _ => ?_))))))
      refine Qb (Qc (QT rfl rfl rfl rfl (by decide) (Qe rfl rfl (Qa fun _ => Qd (Qh rfl (fun _ => ?_) (fun h => by cases h))))))
      refine Q8 Xr (Q9 rfl rfl ?_)
      have hkl : k < lv.length := by omega
      have hxk := lfK_at hkl
      have hxm := Xl hxk
      have hxg : lv[k] = lfK lv k := (List.getElem?_eq_some_iff.1 hxk).2
      refine Qf 2 rfl (rs_slc_s (l := 0) (q := (k : Int)) rfl rfl rfl rfl rfl (by decide) (.inl rfl) (by omega) (by omega) (Qf 3 rfl (Qx rfl rfl rfl (by omega) ?_)))
      by_cases hlast : k + 1 < lv.length
      · skip
        refine rs_slc_s (l := (k : Int) + 1) (q := ((lv.length : Nat) : Int)) rfl rfl rfl rfl rfl (by omega) (.inr (by omega)) (by omega) (by omega) ?_
        have hdr : ∀ q r : Nat, q = k + 1 → r = lv.length - (k + 1) → ((lv.map cLf).drop q).take r = (lv.drop (k + 1)).map cLf := fun q r e e2 => by rw [e, e2, ← List.map_drop, List.take_of_length_le (by simp)]
        refine rs_app_o (n := k) (els := lv.map cLf) (news := (lv.drop (k + 1)).map cLf) (m := lv.length - (k + 1)) (fl' := true) rfl rfl rfl rfl (src_sub rfl (by simp; omega) (hdr _ _ (by omega) (by omega))) rfl rfl (by simp; omega) (by simp) (fun el hel => by obtain ⟨y, _, rfl⟩ := List.mem_map.1 hel; rfl) (by simp) (by omega) (by omega) (by rw [flat_map (f := cLf) (fun _ => rfl)]; rfl) (Q9 rfl rfl (Q0 rfl rfl rfl rfl rfl rfl rfl (nL rfl) rfl rfl (Qa ⟨by kernel_rfl, fun _ => ?_⟩)))
        refine QI (Qd (Qb (Qc (Qo rfl rfl rfl rfl (nL rfl) rfl (Q0 rfl rfl rfl rfl rfl rfl rfl (nL rfl) rfl rfl (Qa fun _ => Qd (Ql ?_)))))))
        rw [if_neg (show ¬ XZ 5 lv.length hd.length from by unfold XZ; omega)]
        exact Q5 rfl (Xg (.cons (Q6 rfl (.inr rfl)) (.cons (QK (f := cLf) (xs := lv.take k ++ lv.drop (k + 1)) (by rw [List.map_append, List.map_take]; rfl) rfl (by simp; omega) (fun _ => rfl)) (.cons (QK (f := cS) (xs := hd) rfl rfl rfl (fun _ => rfl)) .nil)))) .nil
      · skip
        refine rs_slc_e (l := (k : Int) + 1) rfl rfl rfl (by show some ((lv.length : Nat) : Int) = some ((k : Int) + 1); congr 1; omega) rfl (by omega) (by omega) (rs_app_o (n := k) (els := lv.map cLf) (news := []) (m := 0) (fl' := true) rfl rfl rfl rfl rfl rfl rfl (by simp; omega) (by simp) (by simp) rfl (by omega) (by omega) rfl (Q9 rfl rfl (Q0 rfl rfl rfl rfl rfl rfl rfl (nL rfl) rfl rfl (Qa ⟨by kernel_rfl, fun _ => ?_⟩))))
        refine QI (Qd (Qb (Qc (Qo rfl rfl rfl rfl (nL rfl) rfl (Q0 rfl rfl rfl rfl rfl rfl rfl (nL rfl) rfl rfl (Qa fun _ => Qd (Ql ?_)))))))
        rw [if_neg (show ¬ XZ 5 lv.length hd.length from by unfold XZ; omega)]
        exact Q5 rfl (Xg (.cons (Q6 rfl (.inr rfl)) (.cons (QK (f := cLf) (xs := lv.take k ++ lv.drop (k + 1)) (by show some (Ob.cells 51 5 ((lv.map cLf).take k ++ []) true) = _; rw [List.append_nil, List.drop_eq_nil_of_le (show lv.length ≤ k + 1 by omega), List.append_nil, List.map_take]) rfl (by simp; omega) (fun _ => rfl)) (.cons (QK (f := cS) (xs := hd) rfl rfl rfl (fun _ => rfl)) .nil)))) .nil
  · skip
    refine Qi [] rfl rfl (fc16 q0 11 (by decide)) (.cons (Qg rfl) (.cons (Qg rfl) (.nil))) rfl ?_
    rw [hdd]
    refine Qe rfl rfl (Qa fun _ => Qd (Qb (Qb (Qc (Qe rfl rfl (Qz rfl rfl rfl rfl (by decide) (Qf 8 rfl (Qz rfl rfl rfl rfl (by decide) ?_))))))))
    refine Qf 11 rfl (Qa fun _ => Qd (Qh rfl (fun h => by cases h) (fun _ => ?_)))
    refine Qn (Qd (Qb (Qb (Qc (Qe rfl rfl (Qa fun _ => Qd (Qm (Qb ?_))))))))
    refine Qc (Qz rfl rfl rfl rfl (by decide) (Qe rfl rfl (Qa fun _ => Qd (Qh rfl (fun h => by cases h) (fun _ => ?_)))))
    refine Qb (Qc (Qz rfl rfl rfl rfl (by decide) (Qe rfl rfl (Qa fun _ => Qd (Qh rfl (fun h => by cases h) (fun _ => ?_))))))
    refine Qb (Qc (Qz rfl rfl rfl rfl (by decide) (Qe rfl rfl (Qa fun _ => Qd (Qh rfl (fun h => by cases h) (fun _ => ?_))))))
    refine Qb (Qc (Qz rfl rfl rfl rfl (by decide) (Qe rfl rfl (Qa fun _ => Qd (Qh rfl (fun h => by cases h) (fun _ => ?_))))))
    refine Qb (Qc (Qz rfl rfl rfl rfl (by decide) (Qe rfl rfl (Qa fun _ => Qd (Qh rfl (fun h => by cases h) (fun _ => ?_))))))
    refine Qb (Qc (Qz rfl rfl rfl rfl (by decide) (Qe rfl rfl (Qa fun _ => Qd (Qh rfl (fun h => by cases h) (fun _ => ?_))))))
    refine Qb (Qc (QT rfl rfl rfl rfl (by decide) (Qe rfl rfl (Qa fun _ => Qd (Qh rfl (fun _ => ?_) (fun h => by cases h))))))
    refine Q8 Xr ?_
    have hp3 := Jo q2 3 (by decide)
    refine Q7 rfl rfl rfl (by decide) (by decide) (Qf 3 rfl (Xi rfl rfl rfl rfl (Qf 2 rfl (Jv rfl rfl rfl rfl (Qv (l := (([q2, W (z + 1), W (z - 1)] : List Int)).flatMap civ) (els := (([q2, W (z + 1), W (z - 1)] : List Int)).map civ) (fl := true) rfl (by kernel_rfl) rfl rfl (by kernel_rfl) (by kernel_rfl) (Q7 rfl rfl rfl (by decide) (by decide) (QY rfl rfl rfl rfl rfl (Qi [] rfl rfl (fc16 q2 3 (by decide)) (.cons (Qg rfl) (.cons (Qg rfl) (.nil))) rfl (X8 rfl rfl rfl rfl hp3.1 hp3.2 ?_)))))))))
    refine rs_ld_g (f := civ) (xs := ([q2, W (z + 1), W (z - 1)] : List Int)) (y := pick3 q2 (W (z + 1)) (W (z - 1)) q2) rfl rfl rfl (pick3_at _ _ _ _) rfl (Q9 rfl rfl (Q0 rfl rfl rfl rfl rfl rfl rfl (nL rfl) rfl rfl (Qa ⟨by kernel_rfl, fun _ => ?_⟩)))
    refine QI (Qd (Qb (Qc (Qo rfl rfl rfl rfl (nL rfl) rfl (Q0 rfl rfl rfl rfl rfl rfl rfl (nL rfl) rfl rfl (Qa fun _ => Qd (Ql ?_)))))))
    rw [if_neg (show ¬ XZ 6 lv.length hd.length from by unfold XZ; omega)]
    exact Q5 rfl (Xg (.cons (Q6 rfl (.inr rfl)) (.cons (QK (f := cLf) (xs := lv) rfl rfl rfl (fun _ => rfl)) (.cons (QK (f := cS) (xs := hd) rfl rfl rfl (fun _ => rfl)) .nil)))) .nil
  · skip
    refine Qi [] rfl rfl (fc16 q0 11 (by decide)) (.cons (Qg rfl) (.cons (Qg rfl) (.nil))) rfl ?_
    rw [hdd]
    refine Qe rfl rfl (Qa fun _ => Qd (Qb (Qb (Qc (Qe rfl rfl (Qz rfl rfl rfl rfl (by decide) (Qf 8 rfl (QT rfl rfl rfl rfl (by decide) ?_))))))))
    refine Qf 2 rfl (QT rfl rfl rfl rfl (by decide) (Qf 4 rfl (Xu rfl rfl (QE rfl rfl rfl rfl (fun h47 => ?_) (fun h47 => ?_)))))
    · skip
      refine Qf 2 rfl (Qa fun _ => Qd (Qh rfl (fun _ => ?_) (fun h => by cases h)))
      refine Qb (Qc (Q7 rfl rfl rfl (by decide) (by decide) (QY rfl rfl rfl rfl rfl (Qi [] rfl rfl (fc16 q2 18 (by decide)) (.cons (Qg rfl) (.cons (Qg rfl) (.nil))) rfl (Q9 rfl rfl (Q0 rfl rfl rfl rfl rfl rfl rfl (nL rfl) rfl rfl (Qa fun _ => Qd (Qb ?_))))))))
      refine Qc (Qo rfl rfl rfl rfl (nL rfl) rfl (Q0 rfl rfl rfl rfl rfl rfl rfl (nL rfl) rfl rfl (Qa fun _ => Qd (Ql (Q1 ?_)))))
      rw [if_pos (show XZ 7 lv.length hd.length from by unfold XZ; omega)]
      exact Q5 rfl (Xg (.cons (Q6 rfl (.inr rfl)) (.cons (QK (f := cLf) (xs := lv) rfl rfl rfl (fun _ => rfl)) (.cons (QK (f := cS) (xs := hd) rfl rfl rfl (fun _ => rfl)) .nil)))) .nil
    · skip
      refine Qf 2 rfl (Qa fun _ => Qd (Qh rfl (fun h => by cases h) (fun _ => ?_)))
      refine Qn (Qd (Qb (Qb (Qc (Qe rfl rfl (Qa fun _ => Qd (Qm (Qb ?_))))))))
      refine Qc (Qz rfl rfl rfl rfl (by decide) (Qe rfl rfl (Qa fun _ => Qd (Qh rfl (fun h => by cases h) (fun _ => ?_)))))
      refine Qb (Qc (Qz rfl rfl rfl rfl (by decide) (Qe rfl rfl (Qa fun _ => Qd (Qh rfl (fun h => by cases h) (fun _ => ?_))))))
      refine Qb (Qc (Qz rfl rfl rfl rfl (by decide) (Qe rfl rfl (Qa fun _ => Qd (Qh rfl (fun h => by cases h) (fun _ => ?_))))))
      refine Qb (Qc (Qz rfl rfl rfl rfl (by decide) (Qe rfl rfl (Qa fun _ => Qd (Qh rfl (fun h => by cases h) (fun _ => ?_))))))
      refine Qb (Qc (Qz rfl rfl rfl rfl (by decide) (Qe rfl rfl (Qa fun _ => Qd (Qh rfl (fun h => by cases h) (fun _ => ?_))))))
      refine Qb (Qc (Qz rfl rfl rfl rfl (by decide) (Qe rfl rfl (Qa fun _ => Qd (Qh rfl (fun h => by cases h) (fun _ => ?_))))))
      refine Qb (Qc (Qz rfl rfl rfl rfl (by decide) (Qe rfl rfl (Qa fun _ => Qd (Qh rfl (fun h => by cases h) (fun _ => ?_))))))
      refine Qb (Qc (QT rfl rfl rfl rfl (by decide) (Qe rfl rfl (Qa fun _ => Qd (Qh rfl (fun _ => ?_) (fun h => by cases h))))))
      refine Q8 Xr (Q9 rfl rfl ?_)
      have hhl : m < hd.length := by omega
      have hxh := hdK_at hhl
      have hxm2 := Xl hxh
      refine Qf 5 rfl (X8 rfl rfl rfl rfl (by omega) (by omega) (rs_ld_g (f := cS) (xs := hd) (y := hd.getD m []) rfl rfl rfl hxh rfl (Qf 3 rfl (X8 rfl rfl rfl rfl (by omega) (by omega) (rs_ld_g (f := cS) (xs := hd) (y := hd.getD m []) rfl rfl rfl hxh rfl (J6 rfl rfl (rs_sub rfl rfl rfl (by have := (h.b _ hxm2).2; simp only [LIM] at this; omega) (rs_mx (c := (((hd.getD m []).length - 1 : Nat) : Int)) rfl rfl rfl (by omega) (rs_stake (c := (hd.getD m []).take ((hd.getD m []).length - 1)) rfl rfl rfl (by omega) (by omega) rfl ?_)))))))))
      refine Q7 rfl rfl rfl (by decide) (by decide) (QY rfl rfl rfl rfl rfl (Xj (m := b8 q2) rfl rfl rfl (Qv (l := (([b8 q2] : List Int)).flatMap cu8) (els := (([b8 q2] : List Int)).map cu8) (fl := true) rfl (by kernel_rfl) rfl rfl (by kernel_rfl) (by kernel_rfl) (rs_b2s (l := [b8 q2]) (rd := [188]) rfl rfl (bytesV_sl rfl rfl) (XF (c := (hd.getD m []).take ((hd.getD m []).length - 1) ++ [b8 q2]) rfl rfl rfl (by have := (h.b _ hxm2).2; simp only [LIM] at this; simp only [List.length_take, List.length_cons, List.length_nil]; omega) rfl (X8 rfl rfl rfl rfl (by omega) (by omega) (rs_st_m (f := cS) (xs := hd) (t := m) (v := (hd.getD m []).take ((hd.getD m []).length - 1) ++ [b8 q2]) (fl' := true) rfl rfl rfl rfl hhl rfl rfl (nL rfl) rfl rfl (Qa ⟨by kernel_rfl, fun _ => ?_⟩))))))))
      refine QI (Qd (Qb (Qc (Qo rfl rfl rfl rfl (nL rfl) rfl (Q0 rfl rfl rfl rfl rfl rfl rfl (nL rfl) rfl rfl (Qa fun _ => Qd (Ql ?_)))))))
      rw [if_neg (show ¬ XZ 7 lv.length hd.length from by unfold XZ; omega)]
      exact Q5 rfl (Xg (.cons (Q6 rfl (.inr rfl)) (.cons (QK (f := cLf) (xs := lv) rfl rfl rfl (fun _ => rfl)) (.cons (QK (f := cS) (xs := (oddG 7 k m z lv hd q2).hid) rfl rfl (by simp [oddG]) (fun _ => rfl)) .nil)))) .nil
  · skip
    refine Qi [] rfl rfl (fc16 q0 11 (by decide)) (.cons (Qg rfl) (.cons (Qg rfl) (.nil))) rfl ?_
    rw [hdd]
    refine Qe rfl rfl (Qa fun _ => Qd (Qb (Qb (Qc (Qe rfl rfl (Qz rfl rfl rfl rfl (by decide) (Qf 8 rfl (QT rfl rfl rfl rfl (by decide) ?_))))))))
    refine Qf 2 rfl (QT rfl rfl rfl rfl (by decide) (Qf 4 rfl (Xu rfl rfl (QE rfl rfl rfl rfl (fun h47 => ?_) (fun h47 => ?_)))))
    · skip
      refine Qf 2 rfl (Qa fun _ => Qd (Qh rfl (fun _ => ?_) (fun h => by cases h)))
      refine Qb (Qc (Q7 rfl rfl rfl (by decide) (by decide) (QY rfl rfl rfl rfl rfl (Qi [] rfl rfl (fc16 q2 18 (by decide)) (.cons (Qg rfl) (.cons (Qg rfl) (.nil))) rfl (Q9 rfl rfl (Q0 rfl rfl rfl rfl rfl rfl rfl (nL rfl) rfl rfl (Qa fun _ => Qd (Qb ?_))))))))
      refine Qc (Qo rfl rfl rfl rfl (nL rfl) rfl (Q0 rfl rfl rfl rfl rfl rfl rfl (nL rfl) rfl rfl (Qa fun _ => Qd (Ql (Q1 ?_)))))
      rw [if_pos (show XZ 8 lv.length hd.length from by unfold XZ; omega)]
      exact Q5 rfl (Xg (.cons (Q6 rfl (.inr rfl)) (.cons (QK (f := cLf) (xs := lv) rfl rfl rfl (fun _ => rfl)) (.cons (QK (f := cS) (xs := hd) rfl rfl rfl (fun _ => rfl)) .nil)))) .nil
    · skip
      refine Qf 2 rfl (Qa fun _ => Qd (Qh rfl (fun h => by cases h) (fun _ => ?_)))
      refine Qn (Qd (Qb (Qb (Qc (Qe rfl rfl (Qa fun _ => Qd (Qm (Qb ?_))))))))
      refine Qc (Qz rfl rfl rfl rfl (by decide) (Qe rfl rfl (Qa fun _ => Qd (Qh rfl (fun h => by cases h) (fun _ => ?_)))))
      refine Qb (Qc (Qz rfl rfl rfl rfl (by decide) (Qe rfl rfl (Qa fun _ => Qd (Qh rfl (fun h => by cases h) (fun _ => ?_))))))
      refine Qb (Qc (Qz rfl rfl rfl rfl (by decide) (Qe rfl rfl (Qa fun _ => Qd (Qh rfl (fun h => by cases h) (fun _ => ?_))))))
      refine Qb (Qc (Qz rfl rfl rfl rfl (by decide) (Qe rfl rfl (Qa fun _ => Qd (Qh rfl (fun h => by cases h) (fun _ => ?_))))))
      refine Qb (Qc (Qz rfl rfl rfl rfl (by decide) (Qe rfl rfl (Qa fun _ => Qd (Qh rfl (fun h => by cases h) (fun _ => ?_))))))
      refine Qb (Qc (Qz rfl rfl rfl rfl (by decide) (Qe rfl rfl (Qa fun _ => Qd (Qh rfl (fun h => by cases h) (fun _ => ?_))))))
      refine Qb (Qc (Qz rfl rfl rfl rfl (by decide) (Qe rfl rfl (Qa fun _ => Qd (Qh rfl (fun h => by cases h) (fun _ => ?_))))))
      refine Qb (Qc (Qz rfl rfl rfl rfl (by decide) (Qe rfl rfl (Qa fun _ => Qd (Qh rfl (fun h => by cases h) (fun _ => ?_))))))
      refine Qb (Qc (QT rfl rfl rfl rfl (by decide) (Qe rfl rfl (Qa fun _ => Qd (Qh rfl (fun _ => ?_) (fun h => by cases h))))))
      refine Q8 Xr (Q9 rfl rfl ?_)
      have hhl : m < hd.length := by omega
      have hxh := hdK_at hhl
      have hxm2 := Xl hxh
      refine Qf 5 rfl (X8 rfl rfl rfl rfl (by omega) (by omega) (rs_ld_g (f := cS) (xs := hd) (y := hd.getD m []) rfl rfl rfl hxh rfl (XF (c := hd.getD m [] ++ [120]) rfl rfl rfl (by have := (h.b _ hxm2).2; simp only [LIM] at this; simp only [List.length_cons, List.length_nil]; omega) rfl (X8 rfl rfl rfl rfl (by omega) (by omega) (rs_st_m (f := cS) (xs := hd) (t := m) (v := hd.getD m [] ++ [120]) (fl' := true) rfl rfl rfl rfl hhl rfl rfl (nL rfl) rfl rfl (Qa ⟨by kernel_rfl, fun _ => ?_⟩))))))
      refine QI (Qd (Qb (Qc (Qo rfl rfl rfl rfl (nL rfl) rfl (Q0 rfl rfl rfl rfl rfl rfl rfl (nL rfl) rfl rfl (Qa fun _ => Qd (Ql ?_)))))))
      rw [if_neg (show ¬ XZ 8 lv.length hd.length from by unfold XZ; omega)]
      exact Q5 rfl (Xg (.cons (Q6 rfl (.inr rfl)) (.cons (QK (f := cLf) (xs := lv) rfl rfl rfl (fun _ => rfl)) (.cons (QK (f := cS) (xs := (oddG 8 k m z lv hd q2).hid) rfl rfl (by simp [oddG]) (fun _ => rfl)) .nil)))) .nil
  · skip
    refine Qi [] rfl rfl (fc16 q0 11 (by decide)) (.cons (Qg rfl) (.cons (Qg rfl) (.nil))) rfl ?_
    rw [hdd]
    refine Qe rfl rfl (Qa fun _ => Qd (Qb (Qb (Qc (Qe rfl rfl (Qz rfl rfl rfl rfl (by decide) (Qf 8 rfl (QT rfl rfl rfl rfl (by decide) ?_))))))))
    refine Qf 2 rfl (Qz rfl rfl rfl rfl (by decide) (Qf 8 rfl (Qa fun _ => Qd (Qh rfl (fun h => by cases h) (fun _ => ?_)))))
    refine Qn (Qd (Qb (Qb (Qc (Qe rfl rfl (Qa fun _ => Qd (Qm (Qb ?_))))))))
    refine Qc (Qz rfl rfl rfl rfl (by decide) (Qe rfl rfl (Qa fun _ => Qd (Qh rfl (fun h => by cases h) (fun _ => ?_)))))
    refine Qb (Qc (Qz rfl rfl rfl rfl (by decide) (Qe rfl rfl (Qa fun _ => Qd (Qh rfl (fun h => by cases h) (fun _ => ?_))))))
    refine Qb (Qc (Qz rfl rfl rfl rfl (by decide) (Qe rfl rfl (Qa fun _ => Qd (Qh rfl (fun h => by cases h) (fun _ => ?_))))))
    refine Qb (Qc (Qz rfl rfl rfl rfl (by decide) (Qe rfl rfl (Qa fun _ => Qd (Qh rfl (fun h => by cases h) (fun _ => ?_))))))
    refine Qb (Qc (Qz rfl rfl rfl rfl (by decide) (Qe rfl rfl (Qa fun _ => Qd (Qh rfl (fun h => by cases h) (fun _ => ?_))))))
    refine Qb (Qc (Qz rfl rfl rfl rfl (by decide) (Qe rfl rfl (Qa fun _ => Qd (Qh rfl (fun h => by cases h) (fun _ => ?_))))))
    refine Qb (Qc (Qz rfl rfl rfl rfl (by decide) (Qe rfl rfl (Qa fun _ => Qd (Qh rfl (fun h => by cases h) (fun _ => ?_))))))
    refine Qb (Qc (Qz rfl rfl rfl rfl (by decide) (Qe rfl rfl (Qa fun _ => Qd (Qh rfl (fun h => by cases h) (fun _ => ?_))))))
    refine Qb (Qc (Qz rfl rfl rfl rfl (by decide) (Qe rfl rfl (Qa fun _ => Qd (Qh rfl (fun h => by cases h) (fun _ => ?_))))))
    refine Qb (Qc (QT rfl rfl rfl rfl (by decide) (Qe rfl rfl (Qa fun _ => Qd (Qh rfl (fun _ => ?_) (fun h => by cases h))))))
    refine Qc (Qf 2 rfl (Qv (l := (([[49, 50, 51, 52, 53, 54, 55, 56]] : List (List Int))).flatMap cS) (els := (([[49, 50, 51, 52, 53, 54, 55, 56]] : List (List Int))).map cS) (fl := true) rfl (by kernel_rfl) rfl rfl (by kernel_rfl) (by kernel_rfl) (QV (f := cS) (xs := hd) (y := [49, 50, 51, 52, 53, 54, 55, 56]) (fl' := true) rfl rfl rfl rfl (rfl) rfl rfl rfl (by decide) rfl (by omega) (by omega) rfl (Q9 rfl rfl (Q0 rfl rfl rfl rfl rfl rfl rfl (nL rfl) rfl rfl (Qa fun _ => QI (Qd (Qb ?_))))))))
    refine Qc (Qo rfl rfl rfl rfl (nL rfl) rfl (Q0 rfl rfl rfl rfl rfl rfl rfl (nL rfl) rfl rfl (Qa fun _ => Qd (Ql ?_))))
    rw [if_neg (show ¬ XZ 9 lv.length hd.length from by unfold XZ; omega)]
    exact Q5 rfl (Xg (.cons (Q6 rfl (.inr rfl)) (.cons (QK (f := cLf) (xs := lv) rfl rfl rfl (fun _ => rfl)) (.cons (QK (f := cS) (xs := hd ++ [[49, 50, 51, 52, 53, 54, 55, 56]]) rfl rfl (by simp) (fun _ => rfl)) .nil)))) .nil
  · skip
    refine Qi [] rfl rfl (fc16 q0 11 (by decide)) (.cons (Qg rfl) (.cons (Qg rfl) (.nil))) rfl ?_
    rw [hdd]
    refine Qe rfl rfl (Qa fun _ => Qd (Qb (Qb (Qc (Qe rfl rfl (Qz rfl rfl rfl rfl (by decide) (Qf 8 rfl (QT rfl rfl rfl rfl (by decide) ?_))))))))
    refine Qf 2 rfl (Qz rfl rfl rfl rfl (by decide) (Qf 8 rfl (Qa fun _ => Qd (Qh rfl (fun h => by cases h) (fun _ => ?_)))))
    refine Qn (Qd (Qb (Qb (Qc (Qe rfl rfl (Qa fun _ => Qd (Qm (Qb ?_))))))))
    refine Qc (Qz rfl rfl rfl rfl (by decide) (Qe rfl rfl (Qa fun _ => Qd (Qh rfl (fun h => by cases h) (fun _ => ?_)))))
    refine Qb (Qc (Qz rfl rfl rfl rfl (by decide) (Qe rfl rfl (Qa fun _ => Qd (Qh rfl (fun h => by cases h) (fun _ => ?_))))))
    refine Qb (Qc (Qz rfl rfl rfl rfl (by decide) (Qe rfl rfl (Qa fun _ => Qd (Qh rfl (fun h => by cases h) (fun _ => ?_))))))
    refine Qb (Qc (Qz rfl rfl rfl rfl (by decide) (Qe rfl rfl (Qa fun _ => Qd (Qh rfl (fun h => by cases h) (fun _ => ?_))))))
    refine Qb (Qc (Qz rfl rfl rfl rfl (by decide) (Qe rfl rfl (Qa fun _ => Qd (Qh rfl (fun h => by cases h) (fun _ => ?_))))))
    refine Qb (Qc (Qz rfl rfl rfl rfl (by decide) (Qe rfl rfl (Qa fun _ => Qd (Qh rfl (fun h => by cases h) (fun _ => ?_))))))
    refine Qb (Qc (Qz rfl rfl rfl rfl (by decide) (Qe rfl rfl (Qa fun _ => Qd (Qh rfl (fun h => by cases h) (fun _ => ?_))))))
    refine Qb (Qc (Qz rfl rfl rfl rfl (by decide) (Qe rfl rfl (Qa fun _ => Qd (Qh rfl (fun h => by cases h) (fun _ => ?_))))))
    refine Qb (Qc (Qz rfl rfl rfl rfl (by decide) (Qe rfl rfl (Qa fun _ => Qd (Qh rfl (fun h => by cases h) (fun _ => ?_))))))
    refine Qb (Qc (Qz rfl rfl rfl rfl (by decide) (Qe rfl rfl (Qa fun _ => Qd (Qh rfl (fun h => by cases h) (fun _ => ?_))))))
    refine Qb (Qc (QT rfl rfl rfl rfl (by decide) (Qe rfl rfl (Qa fun _ => Qd (Qh rfl (fun _ => ?_) (fun h => by cases h))))))
    refine Qc (Qf 4 rfl (Xu rfl rfl (Xy (c := ((hd.length / 2 : Nat) : Int)) rfl rfl rfl (by decide) (by rw [Int.tdiv_eq_ediv_of_nonneg (by omega), show IntKind.i64.wrap ((hd.length : Int) / 2) = (hd.length : Int) / 2 from W_eq (by omega)]; omega) (rs_slc_s (l := 0) (q := ((hd.length / 2 : Nat) : Int)) rfl rfl rfl rfl rfl (by decide) (.inl rfl) (by omega) (by omega) (Q9 rfl rfl (Q0 rfl rfl rfl rfl rfl rfl rfl (nL rfl) rfl rfl (Qa fun _ => QI (Qd ?_))))))))
    refine Qb (Qc (Qo rfl rfl rfl rfl (nL rfl) rfl (Q0 rfl rfl rfl rfl rfl rfl rfl (nL rfl) rfl rfl (Qa fun _ => Qd (Ql ?_)))))
    rw [if_neg (show ¬ XZ 10 lv.length hd.length from by unfold XZ; omega)]
    exact Q5 rfl (Xg (.cons (Q6 rfl (.inr rfl)) (.cons (QK (f := cLf) (xs := lv) rfl rfl rfl (fun _ => rfl)) (.cons (rc_frzT (f := cS) (xs := hd) (n := hd.length / 2) rfl rfl (by omega) (fun _ => rfl)) .nil)))) .nil
end Go.Proofs.YthfhaoogcpfboaaGreat
