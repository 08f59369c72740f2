/-
  Parts of the proof: VF VG VH VJ VK VL VM VN VO VP VQ W0.
-/
import Derived.Test.YthfhaoogcpfboaaGreatK3
import Derived.Shelf.Spec.SlicesGrow
set_option linter.unusedVariables false
set_option linter.unusedSimpArgs false

/-! Walks: VF. -/
namespace Go.Proofs.YthfhaoogcpfboaaGreat
open Go.RowKit
set_option maxRecDepth 100000
set_option linter.unusedVariables false
theorem idxS_lt {α : Type} {p : α → Bool} : ∀ (l : List α) (k : Nat), Xw p l k < ((k + l.length : Nat) : Int)
  | [], k => by show (-1 : Int) < _; omega
  | x :: l, k => by
    unfold Xw
    split
    · simp only [List.length_cons]; omega
    · have := idxS_lt (p := p) l (k + 1); simp only [List.length_cons]; omega
/-- What a Shown tells of the tree. -/
def knR (sp : List (Nat × Nat)) (hd : List (List Int)) (ls : List Lf) (b m : Nat) : Option (List Int) :=
  if 0 ≤ Xw (spEq b m) sp 0 then some (hd.getD (Xw (spEq b m) sp 0).toNat []) else ofK ls b m
theorem knR_t {sp : List (Nat × Nat)} {hd : List (List Int)} {ls : List Lf} {b m : Nat} {x : List Int} (h : Xw (spEq b m) sp 0 ≥ 0) (hx : hd[(Xw (spEq b m) sp 0).toNat]? = some x) : knR sp hd ls b m = some x := by
  unfold knR; rw [if_pos h, getD_at hx]
theorem knR_f {sp : List (Nat × Nat)} {hd : List (List Int)} {ls : List Lf} {b m : Nat} (h : ¬ Xw (spEq b m) sp 0 ≥ 0) : knR sp hd ls b m = ofK ls b m := by unfold knR; rw [if_neg h]
theorem knR_ok {sp : List (Nat × Nat)} {hd : List (List Int)} (ls : List Lf) (hh : ∀ d ∈ hd, B8 d ∧ d.length ≤ LIM) (hn : sp.length = hd.length) : KnOK (knR sp hd ls) where
  one b := by
    unfold knR
    split
    · rfl
    · exact (ofK_ok ls).one b
  ok b m x h := by
    unfold knR at h
    split at h
    · rename_i hi
      injection h with h
      have := idxS_lt (p := spEq b m) sp 0
      obtain ⟨d, hd0, hdm⟩ := Qy (L := hd) (k := (Xw (spEq b m) sp 0).toNat) (by omega)
      rw [← h, getD_at hd0]; exact hh d hdm
    · exact (ofK_ok ls).ok b m x h
def dfL : Lf := ⟨0, 0, false, false, []⟩
/-- The list of leaves that a Shown fills. -/
def Jn (n : Nat) (lv : List Lf) : List Lf := lv.foldl (fun l x => l.set x.ix.toNat x) (List.replicate n dfL)
theorem fill_len (n : Nat) (lv : List Lf) : (Jn n lv).length = n := by
  have key : ∀ (lv l : List Lf), (lv.foldl (fun l x => l.set x.ix.toNat x) l).length = l.length := by
    intro lv
    induction lv with
    | nil => intro l; rfl
    | cons x lv ih => intro l; rw [List.foldl_cons, ih, List.length_set]
  unfold Jn; rw [key, List.length_replicate]
theorem fill_succ {n : Nat} {lv : List Lf} {k : Nat} {x : Lf} (h : lv[k]? = some x) : Jn n (lv.take (k + 1)) = (Jn n (lv.take k)).set x.ix.toNat x := by unfold Jn; rw [QX h, List.foldl_append]; rfl
theorem fill_ok {n : Nat} {lv : List Lf} (hn : n ≤ 64) (h : ∀ x ∈ lv, x.OK) : LsOK (Jn n lv) := by
  refine ⟨by rw [fill_len]; exact hn, ?_⟩
  have key : ∀ (lv l : List Lf), (∀ x ∈ lv, x.OK) → (∀ x ∈ l, x.OK) → ∀ x ∈ lv.foldl (fun l x => l.set x.ix.toNat x) l, x.OK := by
    intro lv
    induction lv with
    | nil => intro l _ hl; exact hl
    | cons y lv ih =>
      intro l hv hl
      rw [List.foldl_cons]
      refine ih _ (fun x hx => hv x (List.mem_cons_of_mem _ hx)) fun x hx => ?_
      rcases List.mem_or_eq_of_mem_set hx with hx | hx
      · exact hl x hx
      · rw [hx]; exact hv y (List.mem_cons_self ..)
  refine key lv _ h fun x hx => ?_
  rw [(List.mem_replicate.1 hx).2]
  exact ⟨⟨by decide, by decide⟩, ⟨by decide, by decide⟩, (fun x hx => by cases hx), by decide⟩
theorem fill_0 (n : Nat) : List.replicate n (cLf dfL) = (Jn n ([] : List Lf)).map cLf := by unfold Jn; simp
/-- The root of a Shown: none without the form. -/
def Jx (z : Int) (lv : List Lf) (hd : List (List Int)) : Option (List Int) := (fmS z lv hd).map fun sp => Q4 (knR sp hd (Jn z.toNat lv)) (lg z.toNat) 0
theorem fm_parts {z : Int} {lv : List Lf} {hdl : List (List Int)} {sp : List (Nat × Nat)} (h : fmS z lv hdl = some sp) : (1 ≤ z ∧ z ≤ 16) ∧ incF z (-1) (QN lv) = true ∧ sp = Xc z.toNat (QN lv) ∧ sp.length = hdl.length ∧ ∀ d ∈ hdl, d.length = 8 := by
  unfold fmS at h
  split at h
  · cases h
  split at h
  · cases h
  split at h
  · cases h
  split at h
  · cases h
  rename_i h1 h2 h3 h4
  injection h with h
  subst h
  refine ⟨by omega, by simpa using h2, rfl, by omega, fun d hd => ?_⟩
  have h5 : hdl.any Jd = false := by simpa using h4
  have := List.any_eq_false.1 h5 d hd
  simp only [Jd, decide_eq_true_eq] at this
  omega
def mcv74 : MC := (.seq (.reg [oN 3 (.box 110 2 (.t 1)) [], oN 4 (.mv (.c (.int .i64 0))) []] false) (.seq (.seq (.reg [oM 6 0 [], oN 7 (.len (.t 6)) [0], oN 8 (.mv (.c (.int .i64 0))) []] false) (.block 0 (.loop (.seq (.reg [oN 9 (.bin .lss (.t 8) (.t 7)) []] false) (.seq (.cond (.t 9) .skip (.exit 0)) (.seq (.block 1 (.seq (.reg [oM 10 8 [], oM 5 10 [0, 0]] false) (.seq (.reg [oN 11 (.ld true 2 (.t 3)) [], oM 12 0 [], oM 13 5 [], oN 14 (.ixsl 2 (.t 12) (.t 13)) [1, 2], oN 15 (.ld true 2 (.t 14)) [3], oN 16 (.aeq false 2 (.t 11) (.t 15)) [0, 4]] true) (.cond (.t 16) (.seq (.reg [oM 17 5 [], oM 4 17 [0, 0]] false) .ret) .skip)))) (.reg [oN 18 (.bin .add (.t 8) (.c (.int .i64 1))) [], oM 8 18 [0]] false))))))) (.seq (.reg [oN 4 (.mv (.c (.int .i64 (-1)))) []] false) .ret)))
theorem mcOkv74 : (match Tryz.f74.body with | some c => Q2 Tryz.prog 19 c | none => none) = some mcv74 := by kernel_rfl
theorem vc74 (sp : List (Nat × Nat)) (b m : Nat) (hsn : sp.length ≤ 1000) : FC Tryz.prog 74 [.rs 2 (sp.map cSp), .agg (cP b m)] [] (.int .i64 (Xw (spEq b m) sp 0)) [] false := by
  refine Qs (nt := 19) Tryz.func74 rfl rfl mcOkv74 (nL rfl) ?_
  delta mcv74
  refine Qb (Qc (Qf 2 rfl (Qa fun _ => Qd (Qb (Qb (Qc (Qe rfl rfl (Qq rfl rfl ?_))))))))
  refine Qe rfl rfl (Qa fun _ => Qd (Qm ?_))
  refine QC (α := Nat) (fun k => sp.length - k) (fun k => [(0, .rs 2 (sp.map cSp)), (3, .ptr 3 0 0), (6, .rs 2 (sp.map cSp)), (7, iv (sp.length : Int)), (8, iv (((k) : Nat) : Int))]) (fun k => [(3, .cells 110 2 [cP b m] true)]) (fun k => k ≤ sp.length ∧ Xw (spEq b m) (sp.drop k) k = Xw (spEq b m) sp 0) 0 (⟨by omega, rfl⟩)
    (Qj (.cs (.cs (.cs (.cs (.cs (.nil)))))) (.keep (rfl) rfl (.nil)) (fun i h => by cases h)) ?_
  rintro k ⟨hk, hinv⟩
  refine Qb (Qc (QJ rfl rfl rfl (Qa fun _ => Qd (Qb (Qh rfl (fun h9 => ?_) (fun h9 => ?_))))))
  · replace h9 := of_decide_eq_true h9
    refine Qn (Qd (Qb (Qm (Qb (Qc (Qf 2 rfl (Qa fun _ => Qd (Qb ?_))))))))
    refine Q8 Xr ?_
    obtain ⟨x, hxk, hxm⟩ := Qy (L := sp) (k := k) (by omega)
    rw [JM hxk] at hinv
    refine Qo rfl rfl rfl rfl (nL rfl) rfl (Qf 2 rfl (Qt (f := cSp) (y := x) rfl rfl rfl (by omega) hxk (QR (cs := cSp x) rfl rfl (nL rfl) rfl (rs_aeq [(b : Int), (m : Int)] [(x.1 : Int), (x.2 : Int)] rfl rfl rfl rfl rfl rfl rfl (spEq_aeq b m x) ?_))))
    cases h16 : spEq b m x
    · skip
      refine Qa ⟨by kernel_rfl, fun _ => ?_⟩
      refine Qd (Qh rfl (fun h => by cases h) (fun _ => ?_))
      refine Qn (QI (Qd (Qc (Qx rfl rfl rfl (by omega) (Qe rfl rfl (Qa fun _ => Qd ?_))))))
      rw [h16] at hinv
      exact ⟨k + 1, ⟨by omega, hinv⟩, by omega, Qj (.cs (.cs (.cs (.cs (.cs (.nil)))))) (.keep (rfl) rfl (.nil)) (fun i h => by cases h)⟩
    · skip
      refine Qa ⟨by kernel_rfl, fun _ => ?_⟩
      refine Qd (Qh rfl (fun _ => ?_) (fun h => by cases h))
      refine Qb (Qc (Qf 2 rfl (Qa fun _ => Qd (Ql (QL (Q1 (Q1 (QL ?_))))))))
      refine Q1 ?_
      rw [h16] at hinv
      rw [← hinv]
      exact Qk rfl rfl rfl (.inr rfl)
  · replace h9 := of_decide_eq_false h9
    refine Q3 (QB (QB (QA (Qd (Qb (Qc (Qe rfl rfl (Qa fun _ => Qd ?_))))))))
    refine Ql ?_
    rw [J3 (by omega)] at hinv
    rw [← hinv]
    exact Qk rfl rfl rfl (.inr rfl)
def mcv73 : MC := (.seq (.reg [oN 4 (.box 110 2 (.t 0)) [], oN 5 (.mv (.c (.str (Qu [])))) [], oN 6 (.mv (.c (.bool false))) [1]] false) (.seq (.seq (.reg [oD 8 1 1 [], oN 9 (.ld true 2 (.t 4)) [], oN 10 (.call 74 [(.t 8), (.t 9)]) [0, 1], oM 7 10 [2, 2, 0, 1, 2]] false) (.seq (.reg [oM 11 7 [], oN 12 (.bin .geq (.t 11) (.c (.int .i64 0))) [0]] false) (.cond (.t 12) (.seq (.reg [oA 13 2 2 [], oD 14 1 13 [0], oM 15 7 [], oN 16 (.ixsl 1 (.t 14) (.t 15)) [1, 2], oD 17 1 16 [3], oM 5 17 [4, 0, 1, 2, 3, 4], oN 6 (.mv (.c (.bool true))) [5, 0, 1, 2, 3, 4, 5]] false) .ret) .skip))) (.seq (.reg [oD 18 1 3 [], oN 19 (.ld true 2 (.t 4)) [], oN 20 (.callv (.t 18) [(.t 19)]) [0, 1], oN 21 (.ext (.t 20) 0) [2], oN 22 (.ext (.t 20) 1) [2], oM 5 21 [3, 2, 0, 1, 2, 3, 4], oM 6 22 [4, 5, 0, 1, 2, 3, 4, 5]] false) .ret)))
theorem mcOkv73 : (match Tryz.f73.body with | some c => Q2 Tryz.prog 23 c | none => none) = some mcv73 := by kernel_rfl
theorem vc73 (sp : List (Nat × Nat)) (z : Int) (lv : List Lf) (hd : List (List Int)) (ls : List Lf) (hl : LsOK ls) (hsn : sp.length ≤ 1000) (hsp : sp.length = hd.length) (b m : Nat) : FC Tryz.prog 73 [.agg (cP b m), .rp [.rs 2 (sp.map cSp)], .rp [.int .i64 z, .rs 5 (lv.map cLf), .rs 1 (hd.map cS)], .rp [.fn (.func 119) [.rp [.rs 5 (ls.map cLf)]]]] [] (.tup [.str (Qu ((knR sp hd ls (b) (m)).getD [])), .bool (knR sp hd ls (b) (m)).isSome]) [] false := by
  have hlt := idxS_lt (p := spEq b m) sp 0
  refine Qs (nt := 23) Tryz.func73 rfl rfl mcOkv73 (nL rfl) ?_
  delta mcv73
  refine Qb (Qc (Qf 3 rfl (Qa fun _ => Qd (Qb (Qb (Qc (Xh rfl rfl rfl (Qo rfl rfl rfl rfl (nL rfl) rfl ?_))))))))
  refine Qi [] rfl rfl (vc74 sp b m hsn) (.cons (Qg rfl) (.cons (Qg rfl) (.nil))) rfl (Qe rfl rfl (Qa fun _ => Qd (Qb (Qc (Qe rfl rfl (XM rfl rfl rfl (Qa fun _ => Qd ?_)))))))
  refine Qh rfl (fun h12 => ?_) (fun h12 => ?_)
  · replace h12 := of_decide_eq_true h12
    refine Qb (Qc (Qf 3 rfl ?_))
    obtain ⟨x, hx, hxm⟩ := Qy (L := hd) (k := (Xw (spEq b m) sp 0).toNat) (by omega)
    refine Qt (f := cS) (y := x) rfl rfl rfl (by omega) hx (Qf 3 rfl (Qa fun _ => Qd (Ql (Q1 ?_))))
    rw [knR_t h12 hx]
    exact Qk rfl rfl rfl (.inr rfl)
  · replace h12 := of_decide_eq_false h12
    refine Qn (Qd (Qb (Qc (Xh rfl rfl rfl (Qo rfl rfl rfl rfl (nL rfl) rfl (X5 [] rfl rfl (by kernel_rfl) rfl (fc_up (vc119 ls hl b m)) (.cons (Qg rfl) (.cons (Qg rfl) (.nil))) .nil rfl rfl rfl (Qf 4 rfl (Qa fun _ => Qd ?_))))))))
    refine Ql ?_
    rw [knR_f h12]
    exact Qk rfl rfl rfl (.inr rfl)
theorem as69w2 (sp : List (Nat × Nat)) (z : Int) (lv : List Lf) (hd : List (List Int)) (ls : List Lf) (kn : Nat → Nat → Option (List Int)) (d b c : Nat) (l : List (List Int)) (hc : c + 2 ^ d ≤ 64) (hl : l.length ≤ 1) (o : Loop) (lb : Nat) : AW Tryz.prog 33 [900, 7, 903] (some lb) as69 (fun e F' H' => e = .normal ∧ Weak 33 [900, 7, 903] F' H' [(8, .ptr 8 0 0), (7, .ptr 7 0 0), (2, .rp [(.fn (.func 73) [.rp [.rs 2 (sp.map cSp)], .rp [.int .i64 z, .rs 5 (lv.map cLf), .rs 1 (hd.map cS)], .rp [.fn (.func 119) [.rp [.rs 5 (ls.map cLf)]]]])])] [(900, .lp o [(18, .fn (.func 149) [.rp (cP b (2 ^ (d + 1)))]), (7, .ptr 7 0 0), (2, .rp [(.fn (.func 73) [.rp [.rs 2 (sp.map cSp)], .rp [.int .i64 z, .rs 5 (lv.map cLf), .rs 1 (hd.map cS)], .rp [.fn (.func 119) [.rp [.rs 5 (ls.map cLf)]]]])])]), (7, .cells 47 1 [[.sl 903 0 (l).length]] false), (903, .cells 9 1 ((l).map cS) true), (8, .cells 110 2 [cP c (2 ^ d)] true)]) [(19, .agg (cP c (2 ^ d))), (18, .fn (.func 149) [.rp (cP b (2 ^ (d + 1)))]), (7, .ptr 7 0 0), (2, .rp [(.fn (.func 73) [.rp [.rs 2 (sp.map cSp)], .rp [.int .i64 z, .rs 5 (lv.map cLf), .rs 1 (hd.map cS)], .rp [.fn (.func 119) [.rp [.rs 5 (ls.map cLf)]]]])])] [(900, .lp o [(18, .fn (.func 149) [.rp (cP b (2 ^ (d + 1)))]), (7, .ptr 7 0 0), (2, .rp [(.fn (.func 73) [.rp [.rs 2 (sp.map cSp)], .rp [.int .i64 z, .rs 5 (lv.map cLf), .rs 1 (hd.map cS)], .rp [.fn (.func 119) [.rp [.rs 5 (ls.map cLf)]]]])])]), (7, .cells 47 1 [[.sl 903 0 (l).length]] false), (903, .cells 9 1 ((l).map cS) true)] := by
  delta as69
  refine Qc (QF rfl rfl rfl (Q0 rfl rfl rfl rfl rfl rfl rfl (nL rfl) rfl rfl (Qa fun _ => ?_)))
  exact ⟨rfl, Qj (.cs (.cs (.cs (.nil)))) (.keep (rfl) rfl (.keep (rfl) rfl (.keep (rfl) rfl (.keep (rfl) rfl (.nil))))) (fun i hi => by simp [Qp] at hi ⊢; omega)⟩
theorem bd69w2 (sp : List (Nat × Nat)) (z : Int) (lv : List Lf) (hd : List (List Int)) (ls : List Lf) (kn : Nat → Nat → Option (List Int)) (d b c : Nat) (l : List (List Int)) (hc : c + 2 ^ d ≤ 64) (hl : l.length ≤ 1) (ih : ∀ c, c + 2 ^ d ≤ 64 → FC Tryz.prog 69 [(.fn (.func 73) [.rp [.rs 2 (sp.map cSp)], .rp [.int .i64 z, .rs 5 (lv.map cLf), .rs 1 (hd.map cS)], .rp [.fn (.func 119) [.rp [.rs 5 (ls.map cLf)]]]]), .agg (cP c (2 ^ d))] [] (.str (Qu (Q4 kn d c))) [] false) (o : Loop) (lb : Nat) : AW Tryz.prog 33 [900, 7, 903] (some lb) bd69 (fun e F' H' => e = .normal ∧ Weak 33 [900, 7, 903] F' H' [] [(900, .lp o [(18, .fn (.func 149) [.rp (cP b (2 ^ (d + 1)))]), (7, .ptr 7 0 0), (2, .rp [(.fn (.func 73) [.rp [.rs 2 (sp.map cSp)], .rp [.int .i64 z, .rs 5 (lv.map cLf), .rs 1 (hd.map cS)], .rp [.fn (.func 119) [.rp [.rs 5 (ls.map cLf)]]]])])]), (7, .cells 47 1 [[.sl 25 0 (l ++ [Q4 kn d c]).length]] false), (25, .cells 9 1 ((l ++ [Q4 kn d c]).map cS) true), (903, .dead)]) [(8, .ptr 8 0 0), (7, .ptr 7 0 0), (2, .rp [(.fn (.func 73) [.rp [.rs 2 (sp.map cSp)], .rp [.int .i64 z, .rs 5 (lv.map cLf), .rs 1 (hd.map cS)], .rp [.fn (.func 119) [.rp [.rs 5 (ls.map cLf)]]]])])] [(900, .lp o [(18, .fn (.func 149) [.rp (cP b (2 ^ (d + 1)))]), (7, .ptr 7 0 0), (2, .rp [(.fn (.func 73) [.rp [.rs 2 (sp.map cSp)], .rp [.int .i64 z, .rs 5 (lv.map cLf), .rs 1 (hd.map cS)], .rp [.fn (.func 119) [.rp [.rs 5 (ls.map cLf)]]]])])]), (7, .cells 47 1 [[.sl 903 0 (l).length]] false), (903, .cells 9 1 ((l).map cS) true), (8, .cells 110 2 [cP c (2 ^ d)] true)] := by
  delta bd69
  refine Qm (Q8 Xr (Qf 2 rfl (Qo rfl rfl rfl rfl (nL rfl) rfl (Qi [] rfl rfl (ih c hc) (.cons (Qg rfl) (.cons (Qg rfl) (.nil))) rfl (Qv (l := (([Q4 kn d c] : List (List Int))).flatMap cS) (els := (([Q4 kn d c] : List (List Int))).map cS) (fl := true) rfl (by kernel_rfl) rfl rfl (by kernel_rfl) (by kernel_rfl) (QV (f := cS) (xs := l) (y := Q4 kn d c) (fl' := true) rfl rfl rfl rfl rfl rfl rfl rfl (by decide) rfl (by omega) (by omega) rfl (Q0 rfl rfl rfl rfl rfl rfl rfl (nL rfl) rfl rfl (Qa ⟨by kernel_rfl, fun _ => ?_⟩))))))))
  refine QI ?_
  exact ⟨rfl, Qj (.nil) (.keep (rfl) rfl (.keep (by rw [len_snoc]; rfl) rfl (.keep (rfl) rfl (.keep (rfl) rfl (.nil))))) (fun i hi => by simp [Qp] at hi ⊢; omega)⟩
theorem y69_2 (sp : List (Nat × Nat)) (z : Int) (lv : List Lf) (hd : List (List Int)) (ls : List Lf) (kn : Nat → Nat → Option (List Int)) (d b c : Nat) (l : List (List Int)) (hc : c + 2 ^ d ≤ 64) (hl : l.length ≤ 1) (ih : ∀ c, c + 2 ^ d ≤ 64 → FC Tryz.prog 69 [(.fn (.func 73) [.rp [.rs 2 (sp.map cSp)], .rp [.int .i64 z, .rs 5 (lv.map cLf), .rs 1 (hd.map cS)], .rp [.fn (.func 119) [.rp [.rs 5 (ls.map cLf)]]]]), .agg (cP c (2 ^ d))] [] (.str (Qu (Q4 kn d c))) [] false) (r0 : Loop) (h : Rec0 Tryz.prog 33 [19] as69 bd69 r0) :
    FCg (Jc Tryz.prog) [.yl 900, .agg (cP c (2 ^ d))] [(900, .lp r0 [(18, .fn (.func 149) [.rp (cP b (2 ^ (d + 1)))]), (7, .ptr 7 0 0), (2, .rp [(.fn (.func 73) [.rp [.rs 2 (sp.map cSp)], .rp [.int .i64 z, .rs 5 (lv.map cLf), .rs 1 (hd.map cS)], .rp [.fn (.func 119) [.rp [.rs 5 (ls.map cLf)]]]])])]), (7, .cells 47 1 [[.sl 903 0 (l).length]] false), (903, .cells 9 1 ((l).map cS) true)] (.bool true) [(900, .lp r0 [(18, .fn (.func 149) [.rp (cP b (2 ^ (d + 1)))]), (7, .ptr 7 0 0), (2, .rp [(.fn (.func 73) [.rp [.rs 2 (sp.map cSp)], .rp [.int .i64 z, .rs 5 (lv.map cLf), .rs 1 (hd.map cS)], .rp [.fn (.func 119) [.rp [.rs 5 (ls.map cLf)]]]])])]), (7, .cells 47 1 [[.sl 25 0 (l ++ [Q4 kn d c]).length]] false), (25, .cells 9 1 ((l ++ [Q4 kn d c]).map cS) true), (903, .dead)] true := by
  have := round_yield (P := Tryz.prog) (F := [(18, .fn (.func 149) [.rp (cP b (2 ^ (d + 1)))]), (7, .ptr 7 0 0), (2, .rp [(.fn (.func 73) [.rp [.rs 2 (sp.map cSp)], .rp [.int .i64 z, .rs 5 (lv.map cLf), .rs 1 (hd.map cS)], .rp [.fn (.func 119) [.rp [.rs 5 (ls.map cLf)]]]])])]) (N := 33) (x := as69) (y := bd69) h.ca h.cb (li := 900) (ps := [19]) (vs := [.agg (cP c (2 ^ d))]) (J := [(7, .cells 47 1 [[.sl 903 0 (l).length]] false), (903, .cells 9 1 ((l).map cS) true)]) (J1 := [(7, .cells 47 1 [[.sl 903 0 (l).length]] false), (903, .cells 9 1 ((l).map cS) true), (8, .cells 110 2 [cP c (2 ^ d)] true)]) (J' := [(7, .cells 47 1 [[.sl 25 0 (l ++ [Q4 kn d c]).length]] false), (25, .cells 9 1 ((l ++ [Q4 kn d c]).map cS) true), (903, .dead)]) (Fb := [(8, .ptr 8 0 0), (7, .ptr 7 0 0), (2, .rp [(.fn (.func 73) [.rp [.rs 2 (sp.map cSp)], .rp [.int .i64 z, .rs 5 (lv.map cLf), .rs 1 (hd.map cS)], .rp [.fn (.func 119) [.rp [.rs 5 (ls.map cLf)]]]])])]) (Z0 := [900, 7, 903]) .normal none (.inl ⟨rfl, rfl⟩)
    rfl rfl (fun i hi => QS.1 hi) (by simp) (fun i h => QS.2 h) (fun i hi => QS.1 (by simp [Qp] at hi ⊢; omega)) h.state h.params rfl rfl h.size (fun t v h => get_mem h) (fun lb o => as69w2 sp z lv hd ls kn d b c l hc hl o lb) (fun lb o => bd69w2 sp z lv hd ls kn d b c l hc hl ih o lb)
  rw [rec_same h.state h.pending] at this
  exact this
theorem vc149d2 (sp : List (Nat × Nat)) (z : Int) (lv : List Lf) (hd : List (List Int)) (ls : List Lf) (kn : Nat → Nat → Option (List Int)) (d b : Nat) (hb : b + 2 ^ (d + 1) ≤ 64) (r0 : Loop) (hy : ∀ (c : Nat) (l : List (List Int)), c + 2 ^ d ≤ 64 → l.length ≤ 1 → FCg (Jc Tryz.prog) [.yl 900, .agg (cP c (2 ^ d))] [(900, .lp r0 [(18, .fn (.func 149) [.rp (cP b (2 ^ (d + 1)))]), (7, .ptr 7 0 0), (2, .rp [(.fn (.func 73) [.rp [.rs 2 (sp.map cSp)], .rp [.int .i64 z, .rs 5 (lv.map cLf), .rs 1 (hd.map cS)], .rp [.fn (.func 119) [.rp [.rs 5 (ls.map cLf)]]]])])]), (7, .cells 47 1 [[.sl 903 0 (l).length]] false), (903, .cells 9 1 ((l).map cS) true)] (.bool true) [(900, .lp r0 [(18, .fn (.func 149) [.rp (cP b (2 ^ (d + 1)))]), (7, .ptr 7 0 0), (2, .rp [(.fn (.func 73) [.rp [.rs 2 (sp.map cSp)], .rp [.int .i64 z, .rs 5 (lv.map cLf), .rs 1 (hd.map cS)], .rp [.fn (.func 119) [.rp [.rs 5 (ls.map cLf)]]]])])]), (7, .cells 47 1 [[.sl 25 0 (l ++ [Q4 kn d c]).length]] false), (25, .cells 9 1 ((l ++ [Q4 kn d c]).map cS) true), (903, .dead)] true) : FC Tryz.prog 149 [.yl 900, .rp (cP b (2 ^ (d + 1)))] [(900, .lp r0 [(18, .fn (.func 149) [.rp (cP b (2 ^ (d + 1)))]), (7, .ptr 7 0 0), (2, .rp [(.fn (.func 73) [.rp [.rs 2 (sp.map cSp)], .rp [.int .i64 z, .rs 5 (lv.map cLf), .rs 1 (hd.map cS)], .rp [.fn (.func 119) [.rp [.rs 5 (ls.map cLf)]]]])])]), (7, .cells 47 1 [[.sl 901 0 (([] : List (List Int))).length]] false), (901, .cells 9 1 ((([] : List (List Int))).map cS) true)] (.tup []) [(900, .lp r0 [(18, .fn (.func 149) [.rp (cP b (2 ^ (d + 1)))]), (7, .ptr 7 0 0), (2, .rp [(.fn (.func 73) [.rp [.rs 2 (sp.map cSp)], .rp [.int .i64 z, .rs 5 (lv.map cLf), .rs 1 (hd.map cS)], .rp [.fn (.func 119) [.rp [.rs 5 (ls.map cLf)]]]])])]), (7, .cells 47 1 [[.sl 903 0 (([] ++ [Q4 kn d b] ++ [Q4 kn d (b + 2 ^ d)] : List (List Int))).length]] false), (903, .cells 9 1 ((([] ++ [Q4 kn d b] ++ [Q4 kn d (b + 2 ^ d)] : List (List Int))).map cS) true), (901, .dead)] true := by
  have hpw := pow2 d
  refine Qs (nt := 21) Tryz.func149 rfl rfl mcOkv149 (nL rfl) ?_
  delta mcv149
  refine aw_post (Qb (Qc (Qf 2 rfl (Xy rfl rfl rfl (by decide) (quo2W hpw (by omega)) (Qe rfl rfl (Qa fun _ => Qd (Qb (Xm (F0 := [(0, .yl 900), (1, .rp (cP b (2 ^ (d + 1)))), (3, iv ((2 ^ d : Nat) : Int))]) (H0 := [(900, .lp r0 [(18, .fn (.func 149) [.rp (cP b (2 ^ (d + 1)))]), (7, .ptr 7 0 0), (2, .rp [(.fn (.func 73) [.rp [.rs 2 (sp.map cSp)], .rp [.int .i64 z, .rs 5 (lv.map cLf), .rs 1 (hd.map cS)], .rp [.fn (.func 119) [.rp [.rs 5 (ls.map cLf)]]]])])]), (7, .cells 47 1 [[.sl 903 0 (([] : List (List Int))).length]] false), (903, .cells 9 1 ((([] : List (List Int))).map cS) true), (901, .dead)]) (Weak.trans (F1 := [(0, .yl 900), (1, .rp (cP b (2 ^ (d + 1)))), (3, iv ((2 ^ d : Nat) : Int))]) (H1 := [(900, .lp r0 [(18, .fn (.func 149) [.rp (cP b (2 ^ (d + 1)))]), (7, .ptr 7 0 0), (2, .rp [(.fn (.func 73) [.rp [.rs 2 (sp.map cSp)], .rp [.int .i64 z, .rs 5 (lv.map cLf), .rs 1 (hd.map cS)], .rp [.fn (.func 119) [.rp [.rs 5 (ls.map cLf)]]]])])]), (7, .cells 47 1 [[.sl 901 0 (([] : List (List Int))).length]] false), (901, .cells 9 1 ((([] : List (List Int))).map cS) true)]) (Qj (.cs (.cs (.cs (.nil)))) (.keep (rfl) rfl (.keep (rfl) rfl (.keep (rfl) rfl (.nil)))) (fun i hi => by simp [Qp] at hi ⊢; omega)) (Weak.trans (F1 := [(0, .yl 900), (1, .rp (cP b (2 ^ (d + 1)))), (3, iv ((2 ^ d : Nat) : Int))]) (QH (i := 901) (i' := 903) (k := 7) rfl rfl (.cons rfl (.same _) (.cons rfl (.same _) (.cons rfl (.same _) (.nil)))) (by decide) rfl (.sl _ _)) (Qj (.cs (.cs (.cs (.nil)))) (.keep (rfl) rfl (.keep (rfl) rfl (.keep (rfl) rfl (.keep (rfl) rfl (.nil))))) (fun i hi => by simp [Qp] at hi ⊢; omega)))) ?_))))))))
  refine Qc (Qf 5 rfl (rs_yield [(900, .lp r0 [(18, .fn (.func 149) [.rp (cP b (2 ^ (d + 1)))]), (7, .ptr 7 0 0), (2, .rp [(.fn (.func 73) [.rp [.rs 2 (sp.map cSp)], .rp [.int .i64 z, .rs 5 (lv.map cLf), .rs 1 (hd.map cS)], .rp [.fn (.func 119) [.rp [.rs 5 (ls.map cLf)]]]])])]), (7, .cells 47 1 [[.sl 903 0 (([] : List (List Int))).length]] false), (903, .cells 9 1 ((([] : List (List Int))).map cS) true)] rfl rfl rfl (hy b [] (by omega) (by simp)) (.cons (Qg rfl) (.cons (Qg rfl) (.nil))) (.cons rfl (.cons rfl (.cons rfl (.nil)))) rfl rfl rfl (Qa fun _ => Qd (Qh rfl (fun _ => ?_) (fun h => by cases h)))))
  refine Xm (F0 := [(0, .yl 900), (1, .rp (cP b (2 ^ (d + 1)))), (3, iv ((2 ^ d : Nat) : Int))]) (H0 := [(900, .lp r0 [(18, .fn (.func 149) [.rp (cP b (2 ^ (d + 1)))]), (7, .ptr 7 0 0), (2, .rp [(.fn (.func 73) [.rp [.rs 2 (sp.map cSp)], .rp [.int .i64 z, .rs 5 (lv.map cLf), .rs 1 (hd.map cS)], .rp [.fn (.func 119) [.rp [.rs 5 (ls.map cLf)]]]])])]), (7, .cells 47 1 [[.sl 903 0 (([] ++ [Q4 kn d b] : List (List Int))).length]] false), (903, .cells 9 1 ((([] ++ [Q4 kn d b] : List (List Int))).map cS) true), (901, .dead)]) (Weak.trans (F1 := [(0, .yl 900), (1, .rp (cP b (2 ^ (d + 1)))), (3, iv ((2 ^ d : Nat) : Int))]) (H1 := [(900, .lp r0 [(18, .fn (.func 149) [.rp (cP b (2 ^ (d + 1)))]), (7, .ptr 7 0 0), (2, .rp [(.fn (.func 73) [.rp [.rs 2 (sp.map cSp)], .rp [.int .i64 z, .rs 5 (lv.map cLf), .rs 1 (hd.map cS)], .rp [.fn (.func 119) [.rp [.rs 5 (ls.map cLf)]]]])])]), (7, .cells 47 1 [[.sl 25 0 (([] ++ [Q4 kn d b] : List (List Int))).length]] false), (25, .cells 9 1 ((([] ++ [Q4 kn d b] : List (List Int))).map cS) true), (901, .dead)]) (Qj (.cs (.cs (.cs (.nil)))) (.keep (rfl) rfl (.keep (rfl) rfl (.keep (rfl) rfl (.keep (rfl) rfl (.nil))))) (fun i hi => by simp [Qp] at hi ⊢; omega)) (Weak.trans (F1 := [(0, .yl 900), (1, .rp (cP b (2 ^ (d + 1)))), (3, iv ((2 ^ d : Nat) : Int))]) (QH (i := 25) (i' := 903) (k := 7) rfl rfl (.cons rfl (.same _) (.cons rfl (.same _) (.cons rfl (.same _) (.nil)))) (by decide) rfl (.sl _ _)) (Qj (.cs (.cs (.cs (.nil)))) (.keep (rfl) rfl (.keep (rfl) rfl (.keep (rfl) rfl (.keep (rfl) rfl (.nil))))) (fun i hi => by simp [Qp] at hi ⊢; omega)))) (Qc (Qf 4 rfl (Xi (c := ((b + 2 ^ d : Nat) : Int)) rfl rfl rfl (addNW (by omega)) (Qf 2 rfl (rs_yield [(900, .lp r0 [(18, .fn (.func 149) [.rp (cP b (2 ^ (d + 1)))]), (7, .ptr 7 0 0), (2, .rp [(.fn (.func 73) [.rp [.rs 2 (sp.map cSp)], .rp [.int .i64 z, .rs 5 (lv.map cLf), .rs 1 (hd.map cS)], .rp [.fn (.func 119) [.rp [.rs 5 (ls.map cLf)]]]])])]), (7, .cells 47 1 [[.sl 903 0 (([] ++ [Q4 kn d b] : List (List Int))).length]] false), (903, .cells 9 1 ((([] ++ [Q4 kn d b] : List (List Int))).map cS) true)] rfl rfl rfl (hy (b + 2 ^ d) ([] ++ [Q4 kn d b] : List (List Int)) (by omega) (by simp)) (.cons (Qg rfl) (.cons (Qg rfl) (.nil))) (.cons rfl (.cons rfl (.cons rfl (.nil)))) rfl rfl rfl (Qa fun _ => ?_))))))
  exact ⟨[], [(900, .lp r0 [(18, .fn (.func 149) [.rp (cP b (2 ^ (d + 1)))]), (7, .ptr 7 0 0), (2, .rp [(.fn (.func 73) [.rp [.rs 2 (sp.map cSp)], .rp [.int .i64 z, .rs 5 (lv.map cLf), .rs 1 (hd.map cS)], .rp [.fn (.func 119) [.rp [.rs 5 (ls.map cLf)]]]])])]), (7, .cells 47 1 [[.sl 903 0 (([] ++ [Q4 kn d b] ++ [Q4 kn d (b + 2 ^ d)] : List (List Int))).length]] false), (903, .cells 9 1 ((([] ++ [Q4 kn d b] ++ [Q4 kn d (b + 2 ^ d)] : List (List Int))).map cS) true), (901, .dead)], (Weak.trans (F1 := []) (H1 := [(900, .lp r0 [(18, .fn (.func 149) [.rp (cP b (2 ^ (d + 1)))]), (7, .ptr 7 0 0), (2, .rp [(.fn (.func 73) [.rp [.rs 2 (sp.map cSp)], .rp [.int .i64 z, .rs 5 (lv.map cLf), .rs 1 (hd.map cS)], .rp [.fn (.func 119) [.rp [.rs 5 (ls.map cLf)]]]])])]), (7, .cells 47 1 [[.sl 25 0 (([] ++ [Q4 kn d b] ++ [Q4 kn d (b + 2 ^ d)] : List (List Int))).length]] false), (25, .cells 9 1 ((([] ++ [Q4 kn d b] ++ [Q4 kn d (b + 2 ^ d)] : List (List Int))).map cS) true), (901, .dead)]) (Qj (.nil) (.keep (rfl) rfl (.keep (rfl) rfl (.keep (rfl) rfl (.keep (rfl) rfl (.nil))))) (fun i hi => by simp [Qp] at hi ⊢; omega)) (Weak.trans (F1 := []) (QH (i := 25) (i' := 903) (k := 7) rfl rfl (.nil) (by decide) rfl (.sl _ _)) (Qj (.nil) (.keep (rfl) rfl (.keep (rfl) rfl (.keep (rfl) rfl (.keep (rfl) rfl (.nil))))) (fun i hi => by simp [Qp] at hi ⊢; omega)))), Jh (.inl rfl) rfl sm (.keep (rfl) rfl (.keep (rfl) rfl (.keep (rfl) rfl (.keep (rfl) rfl (.nil))))) (.cons rfl rfl rfl (.cons rfl rfl rfl (.dead rfl rfl (.nil))))⟩
theorem vc69_02 (sp : List (Nat × Nat)) (z : Int) (lv : List Lf) (hd : List (List Int)) (ls : List Lf) (kn : Nat → Nat → Option (List Int)) (hkn : KnOK kn) (hkf : ∀ b m, b + m ≤ 64 → FC Tryz.prog 73 [.agg (cP b m), .rp [.rs 2 (sp.map cSp)], .rp [.int .i64 z, .rs 5 (lv.map cLf), .rs 1 (hd.map cS)], .rp [.fn (.func 119) [.rp [.rs 5 (ls.map cLf)]]]] [] (.tup [.str (Qu ((kn (b) (m)).getD [])), .bool (kn (b) (m)).isSome]) [] false) (b : Nat) (hb : b + 2 ^ 0 ≤ 64) : FC Tryz.prog 69 [(.fn (.func 73) [.rp [.rs 2 (sp.map cSp)], .rp [.int .i64 z, .rs 5 (lv.map cLf), .rs 1 (hd.map cS)], .rp [.fn (.func 119) [.rp [.rs 5 (ls.map cLf)]]]]), .agg (cP b (2 ^ 0))] [] (.str (Qu (Q4 kn 0 b))) [] false := by
  have hs := hkn.one b
  refine Qs (nt := 33) Tryz.func69 rfl rfl mcOkv69 (nL rfl) ?_
  delta mcv69
  refine Qb (Qc (Qf 3 rfl (Qa fun _ => Qd (Qb (Qb (Qc (QY rfl rfl rfl rfl rfl (Qo rfl rfl rfl rfl (nL rfl) rfl ?_))))))))
  refine X5 [] rfl rfl (by kernel_rfl) rfl (fc_up (hkf b (2 ^ (0)) (by omega))) (.cons (Qg rfl) (.cons (Qg rfl) (.cons (Qg rfl) (.cons (Qg rfl) (.nil))))) .nil rfl rfl rfl (Qf 3 rfl ?_)
  rw [show kn b (2 ^ 0) = kn b 1 from rfl, hs]
  refine Qf 2 rfl (Qa fun _ => Qd (Qb (Qc (Qe rfl rfl (Qa fun _ => Qd (Qh rfl (fun _ => ?_) (fun h => by cases h)))))))
  refine Qb (Qc (Qf 2 rfl (Qa fun _ => Qd (Ql (Q1 ?_)))))
  exact Qk rfl rfl rfl (.inr rfl)
theorem vc69_s2 (sp : List (Nat × Nat)) (z : Int) (lv : List Lf) (hd : List (List Int)) (ls : List Lf) (kn : Nat → Nat → Option (List Int)) (hkn : KnOK kn) (hkf : ∀ b m, b + m ≤ 64 → FC Tryz.prog 73 [.agg (cP b m), .rp [.rs 2 (sp.map cSp)], .rp [.int .i64 z, .rs 5 (lv.map cLf), .rs 1 (hd.map cS)], .rp [.fn (.func 119) [.rp [.rs 5 (ls.map cLf)]]]] [] (.tup [.str (Qu ((kn (b) (m)).getD [])), .bool (kn (b) (m)).isSome]) [] false) (d b : Nat) (hb : b + 2 ^ (d + 1) ≤ 64) (ih : ∀ c, c + 2 ^ d ≤ 64 → FC Tryz.prog 69 [(.fn (.func 73) [.rp [.rs 2 (sp.map cSp)], .rp [.int .i64 z, .rs 5 (lv.map cLf), .rs 1 (hd.map cS)], .rp [.fn (.func 119) [.rp [.rs 5 (ls.map cLf)]]]]), .agg (cP c (2 ^ d))] [] (.str (Qu (Q4 kn d c))) [] false) : FC Tryz.prog 69 [(.fn (.func 73) [.rp [.rs 2 (sp.map cSp)], .rp [.int .i64 z, .rs 5 (lv.map cLf), .rs 1 (hd.map cS)], .rp [.fn (.func 119) [.rp [.rs 5 (ls.map cLf)]]]]), .agg (cP b (2 ^ (d + 1)))] [] (.str (Qu (Q4 kn (d + 1) b))) [] false := by
  have h8a := hkn.tree d b
  have h8b := hkn.tree d (b + 2 ^ d)
  refine Qs (nt := 33) Tryz.func69 rfl rfl mcOkv69 (nL rfl) ?_
  delta mcv69
  refine Qb (Qc (Qf 3 rfl (Qa fun _ => Qd (Qb (Qb (Qc (QY rfl rfl rfl rfl rfl (Qo rfl rfl rfl rfl (nL rfl) rfl ?_))))))))
  refine X5 [] rfl rfl (by kernel_rfl) rfl (fc_up (hkf b (2 ^ (d + 1)) (by omega))) (.cons (Qg rfl) (.cons (Qg rfl) (.cons (Qg rfl) (.cons (Qg rfl) (.nil))))) .nil rfl rfl rfl (Qf 3 rfl ?_)
  cases h14 : (kn b (2 ^ (d + 1))).isSome
  · skip
    refine Qf 2 rfl (Qa fun _ => Qd (Qb (Qc (Qe rfl rfl (Qa fun _ => Qd (Qh rfl (fun h => by cases h) (fun _ => ?_)))))))
    refine Qn (Qd (Qb (Qc (QF rfl rfl rfl (Qa fun _ => Qd (Qb (Qb (Qc ?_))))))))
    refine Qo rfl rfl rfl rfl (nL rfl) rfl (XN [] rfl rfl (vc118 (b, 2 ^ (d + 1))) (.cons (Qg rfl) .nil) .nil rfl rfl rfl (Qa fun _ => Qd (Qm (Xm (F0 := [(18, .fn (.func 149) [.rp (cP b (2 ^ (d + 1)))]), (7, .ptr 7 0 0), (2, .rp [(.fn (.func 73) [.rp [.rs 2 (sp.map cSp)], .rp [.int .i64 z, .rs 5 (lv.map cLf), .rs 1 (hd.map cS)], .rp [.fn (.func 119) [.rp [.rs 5 (ls.map cLf)]]]])])]) (H0 := [(7, .cells 47 1 [[.sl 901 0 (([] : List (List Int))).length]] false), (901, .cells 9 1 ((([] : List (List Int))).map cS) true)]) (Weak.trans (F1 := [(18, .fn (.func 149) [.rp (cP b (2 ^ (d + 1)))]), (7, .ptr 7 0 0), (2, .rp [(.fn (.func 73) [.rp [.rs 2 (sp.map cSp)], .rp [.int .i64 z, .rs 5 (lv.map cLf), .rs 1 (hd.map cS)], .rp [.fn (.func 119) [.rp [.rs 5 (ls.map cLf)]]]])])]) (H1 := [(7, .cells 47 1 [[.nils]] true)]) (Qj (.cs (.cs (.cons rfl (XS rfl rfl (.inl rfl)) (.nil)))) (.keep (rfl) rfl (.nil)) (fun i h => by cases h)) (Weak.trans (F1 := [(18, .fn (.func 149) [.rp (cP b (2 ^ (d + 1)))]), (7, .ptr 7 0 0), (2, .rp [(.fn (.func 73) [.rp [.rs 2 (sp.map cSp)], .rp [.int .i64 z, .rs 5 (lv.map cLf), .rs 1 (hd.map cS)], .rp [.fn (.func 119) [.rp [.rs 5 (ls.map cLf)]]]])])]) (weak_seed (i := 901) (k := 7) (e := 47) (z := 1) (e2 := 9) (z2 := 1) (fl := true) (fl2 := true) rfl rfl) (Qj (.cs (.cs (.cs (.nil)))) (.keep (rfl) rfl (.keep (rfl) rfl (.nil))) (fun i h => by cases h)))) (aw_rfunc 900 [(7, .cells 47 1 [[.sl 901 0 (([] : List (List Int))).length]] false), (901, .cells 9 1 ((([] : List (List Int))).map cS) true)] [(7, .cells 47 1 [[.sl 903 0 (([] ++ [Q4 kn d b] ++ [Q4 kn d (b + 2 ^ d)] : List (List Int))).length]] false), (903, .cells 9 1 ((([] ++ [Q4 kn d b] ++ [Q4 kn d (b + 2 ^ d)] : List (List Int))).map cS) true), (901, .dead)] (.inl ⟨rfl, rfl⟩) rfl (by kernel_rfl) rfl rfl rfl (.cons rfl (.cons rfl (.nil))) rfl rfl rfl rfl (fun r0 hrec => ⟨r0, (by rw [hrec.state]; intro h; cases h), hrec.pending, vc149d2 sp z lv hd ls kn d b hb r0 (fun c l hc hl => y69_2 sp z lv hd ls kn d b c l hc hl ih r0 hrec)⟩) (QI (Qd (Qb ?_))))))))
    refine Q8 Xr (QY rfl rfl rfl rfl rfl (Jw rfl rfl rfl rfl (by decide) (by simp) (Qf 2 rfl (Jw rfl rfl rfl rfl (by decide) (by simp) (QY rfl rfl rfl rfl rfl (Qi [] rfl rfl (vc43 (Q4 kn d b) (Q4 kn d (b + 2 ^ d)) h8a h8b) (.cons (Qg rfl) (.cons (Qg rfl) (.nil))) rfl (Qe rfl rfl (Qa ⟨by kernel_rfl, fun _ => ?_⟩))))))))
    refine Qd (Ql ?_)
    rw [treeD_f h14]
    exact Qk rfl rfl rfl (.inr rfl)
  · skip
    refine Qf 2 rfl (Qa fun _ => Qd (Qb (Qc (Qe rfl rfl (Qa fun _ => Qd (Qh rfl (fun _ => ?_) (fun h => by cases h)))))))
    refine Qb (Qc (Qf 2 rfl (Qa fun _ => Qd (Ql (Q1 ?_)))))
    rw [treeD_t h14]
    exact Qk rfl rfl rfl (.inr rfl)
theorem vc69_2 (sp : List (Nat × Nat)) (z : Int) (lv : List Lf) (hd : List (List Int)) (ls : List Lf) (kn : Nat → Nat → Option (List Int)) (hkn : KnOK kn) (hkf : ∀ b m, b + m ≤ 64 → FC Tryz.prog 73 [.agg (cP b m), .rp [.rs 2 (sp.map cSp)], .rp [.int .i64 z, .rs 5 (lv.map cLf), .rs 1 (hd.map cS)], .rp [.fn (.func 119) [.rp [.rs 5 (ls.map cLf)]]]] [] (.tup [.str (Qu ((kn (b) (m)).getD [])), .bool (kn (b) (m)).isSome]) [] false) : ∀ (d b : Nat), b + 2 ^ d ≤ 64 → FC Tryz.prog 69 [(.fn (.func 73) [.rp [.rs 2 (sp.map cSp)], .rp [.int .i64 z, .rs 5 (lv.map cLf), .rs 1 (hd.map cS)], .rp [.fn (.func 119) [.rp [.rs 5 (ls.map cLf)]]]]), .agg (cP b (2 ^ d))] [] (.str (Qu (Q4 kn d b))) [] false
  | 0, b, hb => vc69_02 sp z lv hd ls kn hkn hkf b hb
  | d + 1, b, hb => vc69_s2 sp z lv hd ls kn hkn hkf d b hb fun c hc => vc69_2 sp z lv hd ls kn hkn hkf d c hc
end Go.Proofs.YthfhaoogcpfboaaGreat

/-! Walks: VG. -/
namespace Go.Proofs.YthfhaoogcpfboaaGreat
open Go.RowKit
set_option maxRecDepth 100000
set_option linter.unusedVariables false
theorem root_some {z : Int} {lv : List Lf} {hd : List (List Int)} {sp : List (Nat × Nat)} (h : fmS z lv hd = some sp) : Jx z lv hd = some (Q4 (knR sp hd (Jn z.toNat lv)) (lg z.toNat) 0) := by unfold Jx; rw [h]; rfl
theorem root_none {z : Int} {lv : List Lf} {hd : List (List Int)} (h : (fmS z lv hd).isSome = false) : Jx z lv hd = none := by
  unfold Jx
  cases hf : fmS z lv hd with
  | none => rfl
  | some x => rw [hf] at h; cases h
structure ShOK (lv : List Lf) (hd : List (List Int)) : Prop where
  nl : lv.length ≤ 64
  nh : hd.length ≤ 64
  ok : ∀ x ∈ lv, x.OK
  b : ∀ d ∈ hd, B8 d ∧ d.length ≤ LIM
def mcv27 : MC := (.seq (.reg [oN 1 (.box 55 3 (.t 0)) [], oN 2 (.mv (.c (.str (Qu [])))) [], oN 3 (.mv (.c (.bool false))) [1]] false) (.seq (.reg [oN 12 (.ld true 3 (.t 1)) [], oN 13 (.call 72 [(.t 12)]) [0], oM 11 13 [1], oN 14 (.ext (.t 11) 0) [2], oN 15 (.ext (.t 11) 1) [2], oN 4 (.alloc 107 1 [.nils]) [], ⟨none, (.st 1 (.t 4) (.t 14)), none, [5, 3, 1, 0, 1, 2, 3, 5]⟩, oM 5 15 [4, 6, 0, 1, 2, 3, 4, 5, 6]] false) (.seq (.seq (.reg [oM 16 5 [], oN 17 (.un .not (.t 16)) [0]] false) (.cond (.t 17) (.seq (.reg [oN 2 (.mv (.c (.str (Qu [])))) [], oN 3 (.mv (.c (.bool false))) [0, 0]] false) .ret) .skip)) (.seq (.reg [oA 18 0 1 [], oD 19 1 18 [0], oN 20 (.mksl 51 5 40 [(.int .i64 0), (.int .i64 0), (.bool false), (.bool false), (.str (Qu []))] (.t 19) (.t 19)) [1, 1], oM 6 20 [2, 0, 1, 2]] false) (.seq (.seq (.reg [oA 21 1 1 [], oD 22 1 21 [0], oN 23 (.len (.t 22)) [1], oN 24 (.mv (.c (.int .i64 0))) []] false) (.block 0 (.loop (.seq (.reg [oN 25 (.bin .lss (.t 24) (.t 23)) []] false) (.seq (.cond (.t 25) .skip (.exit 0)) (.seq (.block 1 (.seq (.reg [oN 26 (.ixsl 5 (.t 22) (.t 24)) [], oN 27 (.ld true 5 (.t 26)) [0], oN 8 (.alloc 51 5 [(.int .i64 0), (.int .i64 0), (.bool false), (.bool false), (.str (Qu []))]) [], ⟨none, (.st 5 (.t 8) (.t 27)), none, [2, 1, 0, 1, 2]⟩] false) (.reg [oM 28 6 [], oA 29 0 8 [], oD 30 1 29 [1], oN 31 (.ld true 5 (.t 8)) [], oN 32 (.ixsl 5 (.t 28) (.t 30)) [0, 2, 0, 1, 2, 3], ⟨none, (.st 5 (.t 32) (.t 31)), none, [4, 3, 0, 1, 2, 3]⟩] false))) (.reg [oN 33 (.bin .add (.t 24) (.c (.int .i64 1))) [], oM 24 33 [0]] false))))))) (.seq (.reg [oM 34 6 [], oN 35 (.call 68 [(.t 34)]) [0], oN 9 (.alloc 112 1 [.nilf]) [], ⟨none, (.st 1 (.t 9) (.t 35)), none, [2, 1, 1, 0, 1, 2]⟩] false) (.seq (.reg [oN 36 (.mkfn (.func 73) [(.t 4), (.t 1), (.t 9)]) [], oM 10 36 [0, 0]] false) (.seq (.reg [oM 37 10 [], oA 38 0 1 [], oD 39 1 38 [1], oN 40 (.call 75 [(.t 39)]) [2], oN 41 (.call 69 [(.t 37), (.t 40)]) [0, 3, 3], oM 2 41 [4, 4, 0, 1, 2, 3, 4], oN 3 (.mv (.c (.bool true))) [5, 0, 1, 2, 3, 4, 5]] false) .ret))))))))
theorem mcOkv27 : (match Tryz.f27.body with | some c => Q2 Tryz.prog 42 c | none => none) = some mcv27 := by kernel_rfl
theorem vc27 (z : Int) (lv : List Lf) (hd : List (List Int)) (h : ShOK lv hd) : FC Tryz.prog 27 [.agg [.int .i64 z, .rs 5 (lv.map cLf), .rs 1 (hd.map cS)]] [] (.tup [.str (Qu ((Jx z lv hd).getD [])), .bool (Jx z lv hd).isSome]) [] false := by
  have hnl := h.nl
  refine Qs (nt := 42) Tryz.func27 rfl rfl mcOkv27 (nL rfl) ?_
  delta mcv27
  refine Qb (Qc (Qf 3 rfl (Qa fun _ => Qd (Qb (Qc (Qo rfl rfl rfl rfl (nL rfl) rfl (XN [] rfl rfl (vc72 z lv hd h.nl h.nh) (.cons (Qg rfl) .nil) .nil rfl rfl rfl (Qf 3 rfl ?_))))))))
  cases h15 : (fmS z lv hd).isSome
  · skip
    refine QF rfl rfl rfl (Q0 rfl rfl rfl rfl rfl rfl rfl (nL rfl) rfl rfl (Qe rfl rfl (Qa fun _ => Qd (Qb (Qb (Qc (Qf 2 rfl (Qa fun _ => ?_))))))))
    refine Qd (Qh rfl (fun _ => ?_) (fun h => by cases h))
    refine Qb (Qc (Qf 2 rfl (Qa fun _ => Qd (Ql (Q1 ?_)))))
    rw [root_none h15]
    exact Qk rfl rfl rfl (.inr rfl)
  · skip
    refine QF rfl rfl rfl (Q0 rfl rfl rfl rfl rfl rfl rfl (nL rfl) rfl rfl (Qe rfl rfl (Qa fun _ => Qd (Qb (Qb (Qc (Qf 2 rfl (Qa fun _ => ?_))))))))
    refine Qd (Qh rfl (fun h => by cases h) (fun _ => ?_))
    refine Qn (Qd (Qb ?_))
    obtain ⟨sp, hsp⟩ := Option.isSome_iff_exists.1 h15
    rw [hsp]
    obtain ⟨hz, hinc, hspd, hsl, h8⟩ := fm_parts hsp
    have hzn : ((z.toNat : Nat) : Int) = z := by omega
    refine Qc (Qf 2 rfl (rs_mksl (n := z) rfl rfl rfl rfl rfl (by omega) (by omega) (by omega) (Qe rfl rfl (Qa fun _ => Qd (Qb (Qb (Qc (Qf 2 rfl ?_))))))))
    refine Qq rfl rfl (Qe rfl rfl (Qa fun _ => Qd (Qm ?_)))
    refine QC (α := Nat) (fun k => lv.length - k) (fun k => [(1, .ptr 1 0 0), (4, .ptr 4 0 0), (6, .sl 20 0 z.toNat), (22, .rs 5 (lv.map cLf)), (23, iv (lv.length : Int)), (24, iv (((k) : Nat) : Int))]) (fun k => [(1, .cells 55 3 [[.int .i64 z, .rs 5 (lv.map cLf), .rs 1 (hd.map cS)]] true), (4, .cells 107 1 [[.rs 2 (sp.map cSp)]] true), (20, .cells 51 5 ((Jn z.toNat (lv.take (k))).map cLf) true)]) (fun k => k ≤ lv.length) 0 (by omega)
      (Qj (.cs (.cs (.cs (.cs (.cs (.cs (.nil))))))) (.keep (rfl) rfl (.keep (rfl) rfl (.keep (by rw [List.take_zero, ← fill_0]; rfl) rfl (.nil)))) (fun i h => by cases h)) ?_
    intro k hk
    refine Qb (Qc (QJ rfl rfl rfl (Qa fun _ => Qd (Qb (Qh rfl (fun h25 => ?_) (fun h25 => ?_))))))
    · replace h25 := of_decide_eq_true h25
      refine Qn (Qd (Qb (Qm (Qb (Qc ?_)))))
      obtain ⟨x, hxk, hxm⟩ := Qy (L := lv) (k := k) (by omega)
      have hx0 := incF_bd hinc x.ix (List.mem_map_of_mem hxm)
      refine Qt (f := cLf) (y := x) rfl rfl rfl (by omega) hxk (QR (cs := cLf x) rfl rfl (nL rfl) rfl (QF rfl rfl rfl (Q0 rfl rfl rfl rfl rfl rfl rfl (nL rfl) rfl rfl (Qa fun _ => Qd (Qc (Qf 3 rfl (Qo rfl rfl rfl rfl (nL rfl) rfl (X8 rfl rfl rfl rfl hx0.1 (by omega) ?_))))))))
      refine rs_st_m (f := cLf) (xs := Jn z.toNat (lv.take k)) (t := x.ix.toNat) (v := x) (fl' := true) rfl rfl rfl rfl (by rw [fill_len]; omega) rfl rfl (nL rfl) rfl rfl (Qa fun _ => QI (Qd (Qc (Qx rfl rfl rfl (by omega) (Qe rfl rfl (Qa fun _ => Qd ?_))))))
      exact ⟨k + 1, by omega, by omega, Qj (.cs (.cs (.cs (.cs (.cs (.cs (.nil))))))) (.keep (rfl) rfl (.keep (rfl) rfl (.keep (by rw [fill_succ hxk]; rfl) rfl (.nil)))) (fun i h => by cases h)⟩
    · replace h25 := of_decide_eq_false h25
      refine Q3 (QB (QB (QA (Qd (Qb ?_)))))
      obtain rfl : k = lv.length := by omega
      rw [List.take_of_length_le (Nat.le_refl _)]
      refine Xm (F0 := [(1, .ptr 1 0 0), (4, .ptr 4 0 0), (6, .rs 5 ((Jn z.toNat lv).map cLf))]) (H0 := [(1, .cells 55 3 [[.int .i64 z, .rs 5 (lv.map cLf), .rs 1 (hd.map cS)]] true), (4, .cells 107 1 [[.rs 2 (sp.map cSp)]] true)]) (Qj (.cs (.cs (.cons rfl (QK (f := cLf) (xs := Jn z.toNat lv) rfl rfl (fill_len _ _) (fun _ => rfl)) (.nil)))) (.keep (rfl) rfl (.keep (rfl) rfl (.nil))) fun i h => by cases h) (Qc (Qe rfl rfl (XN [] rfl rfl (vc68 (Jn z.toNat lv)) (.cons (Qg rfl) .nil) .nil rfl rfl rfl (QF rfl rfl rfl (Q0 rfl rfl rfl rfl rfl rfl rfl (nL rfl) rfl rfl (Qa fun _ => Qd (Qb (Xm (F0 := [(4, .rp [.rs 2 (sp.map cSp)]), (1, .rp [.int .i64 z, .rs 5 (lv.map cLf), .rs 1 (hd.map cS)]), (9, .rp [(.fn (.func 119) [.rp [.rs 5 ((Jn z.toNat lv).map cLf)]])])]) (H0 := []) (Qj (.cons rfl (XS rfl rfl (.inl rfl)) (.cons rfl (XS rfl rfl (.inl rfl)) (.cons rfl (XS rfl rfl (.inl rfl)) (.nil)))) (.nil) (fun i h => by cases h)) ?_))))))))
      refine Qc (Qf 2 rfl (Qa fun _ => Qd (Qb (Qc (Qf 3 rfl ?_)))))
      have hlg := lg16 (n := z.toNat) (by omega)
      refine Qi [] rfl rfl (vc75 z.toNat (by omega)) (.cons (hv_int hzn.symm) (.nil)) rfl (Qi [] rfl rfl (vc69_2 sp z lv hd (Jn z.toNat lv) (knR sp hd (Jn z.toNat lv)) (knR_ok (Jn z.toNat lv) h.b hsl) (fun b m _ => vc73 sp z lv hd (Jn z.toNat lv) (fill_ok (by omega) h.ok) (by have := h.nh; omega) hsl b m) (lg z.toNat) 0 (by omega)) (.cons (Qg rfl) (.cons (Qg rfl) (.nil))) rfl (Qf 2 rfl (Qa fun _ => Qd (Ql ?_))))
      rw [root_some hsp]
      exact Qk rfl rfl rfl (.inr rfl)
end Go.Proofs.YthfhaoogcpfboaaGreat

/-! Walks: VH. -/
namespace Go.Proofs.YthfhaoogcpfboaaGreat
open Go.RowKit
set_option maxRecDepth 100000
set_option linter.unusedVariables false
theorem eq_hit {α : Type} {a b : List α} {k : Nat} {x y : α} (hx : a[k]? = some x) (hy : b[k]? = some y) (h : x ≠ y) : a ≠ b := fun e => h (by
  rw [e, hy] at hx
  injection hx with hx
  exact hx.symm)
theorem eq_end {α : Type} {a b : List α} {k : Nat} (h : a.take k = b.take k) (ha : a.length ≤ k) (hb : b.length ≤ k) : a = b := by
  rwa [List.take_of_length_le ha, List.take_of_length_le hb] at h
theorem eq_step {α : Type} {a b : List α} {k : Nat} {x y : α} (h : a.take k = b.take k) (hx : a[k]? = some x) (hy : b[k]? = some y) (e : x = y) : a.take (k + 1) = b.take (k + 1) := by
  rw [QX hx, QX hy, h, e]
def allZ (p : Lf → Lf → Bool) : List Lf → List Lf → Bool
  | x :: l, y :: m => p x y && allZ p l m
  | _, _ => true
theorem XG {p : Lf → Lf → Bool} {l m : List Lf} {k : Nat} {x y : Lf} (hx : l[k]? = some x) (hy : m[k]? = some y) : allZ p (l.drop k) (m.drop k) = (p x y && allZ p (l.drop (k + 1)) (m.drop (k + 1))) := by
  obtain ⟨h1, e1⟩ := List.getElem?_eq_some_iff.1 hx
  obtain ⟨h2, e2⟩ := List.getElem?_eq_some_iff.1 hy
  rw [List.drop_eq_getElem_cons h1, List.drop_eq_getElem_cons h2, e1, e2]; rfl
theorem allZ_end {p : Lf → Lf → Bool} {l m : List Lf} {k : Nat} (h : l.length ≤ k) : allZ p (l.drop k) (m.drop k) = true := by rw [List.drop_eq_nil_of_le h]; rfl
def XQ (x y : Lf) : Bool := decide (x.want = y.want) && decide (x.salt = y.salt)
def XD (x y : Lf) : Bool := !((x.sure && !y.sure) || (x.touched && !y.touched))
def J8 (z : Int) (lv : List Lf) (hd : List (List Int)) (z2 : Int) (lv2 : List Lf) (hd2 : List (List Int)) : Int :=
  if ((fmS z lv hd).isSome && (fmS z2 lv2 hd2).isSome) = false then 4 else if (decide (z = z2) && decide (hd = hd2) && decide (QN lv = QN lv2)) = false then 54 else if allZ XQ lv lv2 = false then 1 else if allZ XD lv lv2 = false then 7 else 0
section
variable {z z2 : Int} {lv lv2 : List Lf} {hd hd2 : List (List Int)}
theorem ch_1 (h : ((fmS z lv hd).isSome && (fmS z2 lv2 hd2).isSome) = false) : J8 z lv hd z2 lv2 hd2 = 4 := if_pos h
theorem ch_2 (h : ((fmS z lv hd).isSome && (fmS z2 lv2 hd2).isSome) = true) (h2 : (decide (z = z2) && decide (hd = hd2) && decide (QN lv = QN lv2)) = false) : J8 z lv hd z2 lv2 hd2 = 54 := by unfold J8; rw [if_neg (by rw [h]; decide), if_pos h2]
theorem ch_3 (h : ((fmS z lv hd).isSome && (fmS z2 lv2 hd2).isSome) = true) (h2 : (decide (z = z2) && decide (hd = hd2) && decide (QN lv = QN lv2)) = true) (h3 : allZ XQ lv lv2 = false) : J8 z lv hd z2 lv2 hd2 = 1 := by unfold J8; rw [if_neg (by rw [h]; decide), if_neg (by rw [h2]; decide), if_pos h3]
theorem ch_4 (h : ((fmS z lv hd).isSome && (fmS z2 lv2 hd2).isSome) = true) (h2 : (decide (z = z2) && decide (hd = hd2) && decide (QN lv = QN lv2)) = true) (h3 : allZ XQ lv lv2 = true) (h4 : allZ XD lv lv2 = false) : J8 z lv hd z2 lv2 hd2 = 7 := by unfold J8; rw [if_neg (by rw [h]; decide), if_neg (by rw [h2]; decide), if_neg (by rw [h3]; decide), if_pos h4]
theorem ch_5 (h : ((fmS z lv hd).isSome && (fmS z2 lv2 hd2).isSome) = true) (h2 : (decide (z = z2) && decide (hd = hd2) && decide (QN lv = QN lv2)) = true) (h3 : allZ XQ lv lv2 = true) (h4 : allZ XD lv lv2 = true) : J8 z lv hd z2 lv2 hd2 = 0 := by unfold J8; rw [if_neg (by rw [h]; decide), if_neg (by rw [h2]; decide), if_neg (by rw [h3]; decide), if_neg (by rw [h4]; decide)]
end
def mcv79 : MC := (.seq (.reg [oN 4 (.mv (.c (.bool false))) []] false) (.seq (.seq (.reg [oM 6 0 [], oN 7 (.len (.t 6)) [0], oM 8 1 [], oN 9 (.len (.t 8)) [2], oN 10 (.bin .neq (.t 7) (.t 9)) [1, 3]] false) (.cond (.t 10) (.seq (.reg [oN 4 (.mv (.c (.bool false))) []] false) .ret) .skip)) (.seq (.seq (.reg [oM 11 0 [], oN 12 (.len (.t 11)) [0], oN 13 (.mv (.c (.int .i64 0))) []] false) (.block 0 (.loop (.seq (.reg [oN 14 (.bin .lss (.t 13) (.t 12)) []] false) (.seq (.cond (.t 14) .skip (.exit 0)) (.seq (.block 1 (.seq (.reg [oM 15 13 [], oM 5 15 [0, 0]] false) (.seq (.reg [oM 16 0 [], oM 17 5 [], oN 18 (.ixsl 1 (.t 16) (.t 17)) [0, 1], oD 19 1 18 [2], oM 20 1 [], oM 21 5 [], oN 22 (.ixsl 1 (.t 20) (.t 21)) [4, 5], oD 23 1 22 [6], oN 24 (.bin .neq (.t 19) (.t 23)) [3, 7]] true) (.cond (.t 24) (.seq (.reg [oN 4 (.mv (.c (.bool false))) []] false) .ret) .skip)))) (.reg [oN 25 (.bin .add (.t 13) (.c (.int .i64 1))) [], oM 13 25 [0]] false))))))) (.seq (.reg [oN 4 (.mv (.c (.bool true))) []] false) .ret))))
theorem mcOkv79 : (match Tryz.f79.body with | some c => Q2 Tryz.prog 26 c | none => none) = some mcv79 := by kernel_rfl
theorem vc79 (a b : List Int)  (han : a.length ≤ 4611686018427387904) : FC Tryz.prog 79 [.rs 1 (a.map civ), .rs 1 (b.map civ)] [] (.bool (decide (a = b))) [] false := by
  refine Qs (nt := 26) Tryz.func79 rfl rfl mcOkv79 (nL rfl) ?_
  delta mcv79
  refine Qb (Qc (Qe rfl rfl (Qa fun _ => Qd (Qb (Qb (Qc (Qe rfl rfl (Qq rfl rfl ?_))))))))
  refine Qe rfl rfl (Qq rfl rfl (JD rfl rfl rfl (Qa fun _ => Qd (Qh rfl (fun h10 => ?_) (fun h10 => ?_)))))
  · replace h10 := of_decide_eq_true h10
    refine Qb (Qc (Qe rfl rfl (Qa fun _ => Qd (Ql (Q1 ?_)))))
    rw [show decide (a = b) = false from decide_eq_false (fun e => h10 (by rw [e]))]
    exact Qk rfl rfl rfl (.inr rfl)
  · replace h10 := of_decide_eq_false h10
    refine Qn (Qd (Qb (Qb (Qc (Qe rfl rfl (Qq rfl rfl (Qe rfl rfl (Qa fun _ => Qd ?_))))))))
    refine Qm ?_
    refine QC (α := Nat) (fun k => a.length - k) (fun k => [(0, .rs 1 (a.map civ)), (1, .rs 1 (b.map civ)), (11, .rs 1 (a.map civ)), (12, iv (a.length : Int)), (13, iv (((k) : Nat) : Int))]) (fun k => []) (fun k => k ≤ a.length ∧ a.take k = b.take k) 0 (⟨by omega, rfl⟩)
      (Qj (.cs (.cs (.cs (.cs (.cs (.nil)))))) (.nil) (fun i h => by cases h)) ?_
    rintro k ⟨hk, hinv⟩
    refine Qb (Qc (QJ rfl rfl rfl (Qa fun _ => Qd (Qb (Qh rfl (fun h14 => ?_) (fun h14 => ?_))))))
    · replace h14 := of_decide_eq_true h14
      refine Qn (Qd (Qb (Qm (Qb (Qc (Qf 2 rfl (Qa fun _ => Qd (Qb ?_))))))))
      refine Q8 Xr ?_
      obtain ⟨x, hxk, hxm⟩ := Qy (L := a) (k := k) (by omega)
      obtain ⟨y, hyk, hym⟩ := Qy (L := b) (k := k) (by omega)
      refine Qf 2 rfl (Qt (f := civ) (y := x) rfl rfl rfl (by omega) hxk (Qf 3 rfl (Qt (f := civ) (y := y) rfl rfl rfl (by omega) hyk (Xh rfl rfl rfl (JD rfl rfl rfl (Qa ⟨by kernel_rfl, fun _ => ?_⟩))))))
      refine Qd (Qh rfl (fun h24 => ?_) (fun h24 => ?_))
      · replace h24 := of_decide_eq_true h24
        refine Qb (Qc (Qe rfl rfl (Qa fun _ => Qd (Ql (QL (Q1 (Q1 (QL ?_))))))))
        refine Q1 ?_
        rw [show decide (a = b) = false from decide_eq_false (eq_hit hxk hyk h24)]
        exact Qk rfl rfl rfl (.inr rfl)
      · replace h24 := of_decide_eq_false h24
        refine Qn (QI (Qd (Qc (Qx rfl rfl rfl (by omega) (Qe rfl rfl (Qa fun _ => Qd ?_))))))
        exact ⟨k + 1, ⟨by omega, eq_step hinv hxk hyk (Decidable.byContradiction h24)⟩, by omega, Qj (.cs (.cs (.cs (.cs (.cs (.nil)))))) (.nil) (fun i h => by cases h)⟩
    · replace h14 := of_decide_eq_false h14
      refine Q3 (QB (QB (QA (Qd (Qb (Qc (Qe rfl rfl (Qa fun _ => Qd ?_))))))))
      refine Ql ?_
      rw [show decide (a = b) = true from decide_eq_true (eq_end hinv (by omega) (by omega))]
      exact Qk rfl rfl rfl (.inr rfl)
def mcv78 : MC := (.seq (.reg [oN 4 (.mv (.c (.bool false))) []] false) (.seq (.seq (.reg [oM 6 0 [], oN 7 (.len (.t 6)) [0], oM 8 1 [], oN 9 (.len (.t 8)) [2], oN 10 (.bin .neq (.t 7) (.t 9)) [1, 3]] false) (.cond (.t 10) (.seq (.reg [oN 4 (.mv (.c (.bool false))) []] false) .ret) .skip)) (.seq (.seq (.reg [oM 11 0 [], oN 12 (.len (.t 11)) [0], oN 13 (.mv (.c (.int .i64 0))) []] false) (.block 0 (.loop (.seq (.reg [oN 14 (.bin .lss (.t 13) (.t 12)) []] false) (.seq (.cond (.t 14) .skip (.exit 0)) (.seq (.block 1 (.seq (.reg [oM 15 13 [], oM 5 15 [0, 0]] false) (.seq (.reg [oM 16 0 [], oM 17 5 [], oN 18 (.ixsl 1 (.t 16) (.t 17)) [0, 1], oD 19 1 18 [2], oM 20 1 [], oM 21 5 [], oN 22 (.ixsl 1 (.t 20) (.t 21)) [4, 5], oD 23 1 22 [6], oN 24 (.seq true (.t 19) (.t 23)) [3, 7]] true) (.cond (.t 24) (.seq (.reg [oN 4 (.mv (.c (.bool false))) []] false) .ret) .skip)))) (.reg [oN 25 (.bin .add (.t 13) (.c (.int .i64 1))) [], oM 13 25 [0]] false))))))) (.seq (.reg [oN 4 (.mv (.c (.bool true))) []] false) .ret))))
theorem mcOkv78 : (match Tryz.f78.body with | some c => Q2 Tryz.prog 26 c | none => none) = some mcv78 := by kernel_rfl
theorem vc78 (a b : List (List Int)) (ha : ∀ d ∈ a, B8 d) (hb : ∀ d ∈ b, B8 d) (han : a.length ≤ 4611686018427387904) : FC Tryz.prog 78 [.rs 1 (a.map cS), .rs 1 (b.map cS)] [] (.bool (decide (a = b))) [] false := by
  refine Qs (nt := 26) Tryz.func78 rfl rfl mcOkv78 (nL rfl) ?_
  delta mcv78
  refine Qb (Qc (Qe rfl rfl (Qa fun _ => Qd (Qb (Qb (Qc (Qe rfl rfl (Qq rfl rfl ?_))))))))
  refine Qe rfl rfl (Qq rfl rfl (JD rfl rfl rfl (Qa fun _ => Qd (Qh rfl (fun h10 => ?_) (fun h10 => ?_)))))
  · replace h10 := of_decide_eq_true h10
    refine Qb (Qc (Qe rfl rfl (Qa fun _ => Qd (Ql (Q1 ?_)))))
    rw [show decide (a = b) = false from decide_eq_false (fun e => h10 (by rw [e]))]
    exact Qk rfl rfl rfl (.inr rfl)
  · replace h10 := of_decide_eq_false h10
    refine Qn (Qd (Qb (Qb (Qc (Qe rfl rfl (Qq rfl rfl (Qe rfl rfl (Qa fun _ => Qd ?_))))))))
    refine Qm ?_
    refine QC (α := Nat) (fun k => a.length - k) (fun k => [(0, .rs 1 (a.map cS)), (1, .rs 1 (b.map cS)), (11, .rs 1 (a.map cS)), (12, iv (a.length : Int)), (13, iv (((k) : Nat) : Int))]) (fun k => []) (fun k => k ≤ a.length ∧ a.take k = b.take k) 0 (⟨by omega, rfl⟩)
      (Qj (.cs (.cs (.cs (.cs (.cs (.nil)))))) (.nil) (fun i h => by cases h)) ?_
    rintro k ⟨hk, hinv⟩
    refine Qb (Qc (QJ rfl rfl rfl (Qa fun _ => Qd (Qb (Qh rfl (fun h14 => ?_) (fun h14 => ?_))))))
    · replace h14 := of_decide_eq_true h14
      refine Qn (Qd (Qb (Qm (Qb (Qc (Qf 2 rfl (Qa fun _ => Qd (Qb ?_))))))))
      refine Q8 Xr ?_
      obtain ⟨x, hxk, hxm⟩ := Qy (L := a) (k := k) (by omega)
      obtain ⟨y, hyk, hym⟩ := Qy (L := b) (k := k) (by omega)
      refine Qf 2 rfl (Qt (f := cS) (y := x) rfl rfl rfl (by omega) hxk (Qf 3 rfl (Qt (f := cS) (y := y) rfl rfl rfl (by omega) hyk (Xh rfl rfl rfl (rs_seq (r := decide (x ≠ y)) rfl rfl rfl (ha x hxm) (hb y hym) (by by_cases e : x = y <;> simp [e]) (Qa ⟨by kernel_rfl, fun _ => ?_⟩))))))
      refine Qd (Qh rfl (fun h24 => ?_) (fun h24 => ?_))
      · replace h24 := of_decide_eq_true h24
        refine Qb (Qc (Qe rfl rfl (Qa fun _ => Qd (Ql (QL (Q1 (Q1 (QL ?_))))))))
        refine Q1 ?_
        rw [show decide (a = b) = false from decide_eq_false (eq_hit hxk hyk h24)]
        exact Qk rfl rfl rfl (.inr rfl)
      · replace h24 := of_decide_eq_false h24
        refine Qn (QI (Qd (Qc (Qx rfl rfl rfl (by omega) (Qe rfl rfl (Qa fun _ => Qd ?_))))))
        exact ⟨k + 1, ⟨by omega, eq_step hinv hxk hyk (Decidable.byContradiction h24)⟩, by omega, Qj (.cs (.cs (.cs (.cs (.cs (.nil)))))) (.nil) (fun i h => by cases h)⟩
    · replace h14 := of_decide_eq_false h14
      refine Q3 (QB (QB (QA (Qd (Qb (Qc (Qe rfl rfl (Qa fun _ => Qd ?_))))))))
      refine Ql ?_
      rw [show decide (a = b) = true from decide_eq_true (eq_end hinv (by omega) (by omega))]
      exact Qk rfl rfl rfl (.inr rfl)
def mcv29 : MC := (.seq (.reg [oN 2 (.box 55 3 (.t 0)) [], oN 3 (.box 55 3 (.t 1)) [], oN 4 (.mv (.c (.int .i64 0))) []] false) (.seq (.reg [oN 16 (.ld true 3 (.t 2)) [], oN 17 (.call 72 [(.t 16)]) [0], oM 15 17 [1], oN 18 (.ext (.t 15) 0) [2], oN 19 (.ext (.t 15) 1) [2], oM 5 18 [3, 1, 0, 1, 2, 3], oM 6 19 [4, 5, 0, 1, 2, 3, 4, 5]] false) (.seq (.reg [oN 21 (.ld true 3 (.t 3)) [], oN 22 (.call 72 [(.t 21)]) [0], oM 20 22 [1], oN 23 (.ext (.t 20) 0) [2], oN 24 (.ext (.t 20) 1) [2], oM 7 23 [3, 1, 0, 1, 2, 3], oM 8 24 [4, 5, 0, 1, 2, 3, 4, 5]] false) (.seq (.block 0 (.seq (.reg [oM 26 6 [], oN 27 (.un .not (.t 26)) [0], oM 28 27 [1], pM 29 8 28 false [2], oG 30 (.un .not (.t 29)) 28 false [3, 2], oN 31 (.pick (.t 28) (.c (.bool true)) (.t 30)) [2, 4], oM 25 31 [5, 2]] false) (.cond (.t 25) (.seq (.reg [oN 4 (.mv (.c (.int .i64 4))) []] false) .ret) (.seq (.reg [oA 33 0 2 [], oD 34 1 33 [0], oA 35 0 3 [], oD 36 1 35 [2], oN 37 (.bin .neq (.t 34) (.t 36)) [1, 3], oM 38 37 [4], pA 39 2 2 38 false [5], pD 40 1 39 38 false [6, 5], pA 41 2 3 38 false [5], pD 42 1 41 38 false [8, 5], oG 43 (.call 78 [(.t 40), (.t 42)]) 38 false [7, 9, 5, 5], oG 44 (.un .not (.t 43)) 38 false [10, 5], oN 45 (.pick (.t 38) (.c (.bool true)) (.t 44)) [5, 11], oM 46 45 [12, 10], oG 47 (.ld true 3 (.t 2)) 46 false [13], oG 48 (.call 80 [(.t 47)]) 46 false [14, 13, 13], oG 49 (.ld true 3 (.t 3)) 46 false [13], oG 50 (.call 80 [(.t 49)]) 46 false [16, 15, 13], oG 51 (.call 79 [(.t 48), (.t 50)]) 46 false [15, 17, 17, 13], oG 52 (.un .not (.t 51)) 46 false [18, 13], oN 53 (.pick (.t 46) (.c (.bool true)) (.t 52)) [13, 19], oM 32 53 [20, 18]] true) (.cond (.t 32) (.seq (.reg [oN 4 (.mv (.c (.int .i64 54))) []] false) .ret) .skip))))) (.seq (.seq (.reg [oA 54 1 2 [], oD 55 1 54 [0], oN 56 (.len (.t 55)) [1], oN 57 (.mv (.c (.int .i64 0))) []] false) (.block 1 (.loop (.seq (.reg [oN 58 (.bin .lss (.t 57) (.t 56)) []] false) (.seq (.cond (.t 58) .skip (.exit 1)) (.seq (.block 2 (.seq (.reg [oM 59 57 [], oN 60 (.ixsl 5 (.t 55) (.t 57)) [], oN 61 (.ld true 5 (.t 60)) [1], oN 10 (.alloc 51 5 [(.int .i64 0), (.int .i64 0), (.bool false), (.bool false), (.str (Qu []))]) [], oM 9 59 [0, 0, 1, 2, 3], ⟨none, (.st 5 (.t 10) (.t 61)), none, [3, 2, 4, 0, 1, 2, 3, 4]⟩] false) (.seq (.reg [oA 62 1 3 [], oD 63 1 62 [0], oM 64 9 [], oN 65 (.ixsl 5 (.t 63) (.t 64)) [1, 2], oN 66 (.ld true 5 (.t 65)) [3], oN 11 (.alloc 51 5 [(.int .i64 0), (.int .i64 0), (.bool false), (.bool false), (.str (Qu []))]) [], ⟨none, (.st 5 (.t 11) (.t 66)), none, [5, 4, 0, 1, 2, 3, 4, 5]⟩] false) (.seq (.reg [oA 67 1 10 [], oD 68 1 67 [0], oA 69 1 11 [], oD 70 1 69 [2], oN 71 (.bin .neq (.t 68) (.t 70)) [1, 3], oM 72 71 [4], pA 73 4 10 72 false [5], pD 74 1 73 72 false [6, 5], pA 75 4 11 72 false [5], pD 76 1 75 72 false [8, 5], oG 77 (.seq true (.t 74) (.t 76)) 72 false [7, 9, 5], oN 78 (.pick (.t 72) (.c (.bool true)) (.t 77)) [5, 10]] false) (.cond (.t 78) (.seq (.reg [oN 4 (.mv (.c (.int .i64 1))) []] false) .ret) .skip))))) (.reg [oN 79 (.bin .add (.t 57) (.c (.int .i64 1))) [], oM 57 79 [0]] false))))))) (.seq (.seq (.reg [oA 80 1 2 [], oD 81 1 80 [0], oN 82 (.len (.t 81)) [1], oN 83 (.mv (.c (.int .i64 0))) []] false) (.block 3 (.loop (.seq (.reg [oN 84 (.bin .lss (.t 83) (.t 82)) []] false) (.seq (.cond (.t 84) .skip (.exit 3)) (.seq (.block 4 (.seq (.reg [oM 85 83 [], oN 86 (.ixsl 5 (.t 81) (.t 83)) [], oN 87 (.ld true 5 (.t 86)) [1], oN 13 (.alloc 51 5 [(.int .i64 0), (.int .i64 0), (.bool false), (.bool false), (.str (Qu []))]) [], oM 12 85 [0, 0, 1, 2, 3], ⟨none, (.st 5 (.t 13) (.t 87)), none, [3, 2, 4, 0, 1, 2, 3, 4]⟩] false) (.seq (.reg [oA 88 1 3 [], oD 89 1 88 [0], oM 90 12 [], oN 91 (.ixsl 5 (.t 89) (.t 90)) [1, 2], oN 92 (.ld true 5 (.t 91)) [3], oN 14 (.alloc 51 5 [(.int .i64 0), (.int .i64 0), (.bool false), (.bool false), (.str (Qu []))]) [], ⟨none, (.st 5 (.t 14) (.t 92)), none, [5, 4, 0, 1, 2, 3, 4, 5]⟩] false) (.seq (.reg [oA 93 2 13 [], oD 94 1 93 [0], oM 95 94 [1], pA 96 2 14 95 true [2], pD 97 1 96 95 true [3, 2], oG 98 (.un .not (.t 97)) 95 true [4, 2], oN 99 (.pick (.t 95) (.t 98) (.c (.bool false))) [2, 5], oM 100 99 [6, 2], pA 101 3 13 100 false [7], pD 102 1 101 100 false [8, 7], pM 103 102 100 false [9, 7, 7], pA 104 3 14 103 true [10], pD 105 1 104 103 true [11, 10], oG 106 (.un .not (.t 105)) 103 true [12, 10], oG 107 (.pick (.t 103) (.t 106) (.c (.bool false))) 100 false [10, 13, 7], oN 108 (.pick (.t 100) (.c (.bool true)) (.t 107)) [7, 14]] false) (.cond (.t 108) (.seq (.reg [oN 4 (.mv (.c (.int .i64 7))) []] false) .ret) .skip))))) (.reg [oN 109 (.bin .add (.t 83) (.c (.int .i64 1))) [], oM 83 109 [0]] false))))))) (.seq (.reg [oN 4 (.mv (.c (.int .i64 0))) []] false) .ret)))))))
theorem mcOkv29 : (match Tryz.f29.body with | some c => Q2 Tryz.prog 110 c | none => none) = some mcv29 := by kernel_rfl
set_option maxHeartbeats 2000000 in
theorem vc29 (z : Int) (lv : List Lf) (hd : List (List Int)) (h : ShOK lv hd) (z2 : Int) (lv2 : List Lf) (hd2 : List (List Int)) (h2 : ShOK lv2 hd2) : FC Tryz.prog 29 [.agg [.int .i64 z, .rs 5 (lv.map cLf), .rs 1 (hd.map cS)], .agg [.int .i64 z2, .rs 5 (lv2.map cLf), .rs 1 (hd2.map cS)]] [] (iv (J8 z lv hd z2 lv2 hd2)) [] false := by
  have hnl := h.nl
  have hnh := h.nh
  have hnl2 := h2.nl
  refine Qs (nt := 110) Tryz.func29 rfl rfl mcOkv29 (nL rfl) ?_
  delta mcv29
  refine Qb (Qc (Qf 3 rfl (Qa fun _ => Qd (Qb (Qc (Qo rfl rfl rfl rfl (nL rfl) rfl (XN [] rfl rfl (vc72 z lv hd h.nl h.nh) (.cons (Qg rfl) .nil) .nil rfl rfl rfl (Qf 3 rfl ?_))))))))
  cases h19 : (fmS z lv hd).isSome
  · skip
    refine Qf 2 rfl (Qa fun _ => Qd (Qb (Qc (Qo rfl rfl rfl rfl (nL rfl) rfl (XN [] rfl rfl (vc72 z2 lv2 hd2 h2.nl h2.nh) (.cons (Qg rfl) .nil) .nil rfl rfl rfl (Qf 3 rfl ?_))))))
    cases h24 : (fmS z2 lv2 hd2).isSome
    · skip
      refine Qf 2 rfl (Qa fun _ => Qd (Qb (Qm (Qb (Qc (Qf 7 rfl (Qa fun _ => Qd ?_)))))))
      refine Qh rfl (fun _ => ?_) (fun h => by cases h)
      refine Qb (Qc (Qe rfl rfl (Qa fun _ => Qd (Ql (QL (Q1 ?_))))))
      rw [ch_1 (by rw [h19]; rfl)]
      exact Qk rfl rfl rfl (.inr rfl)
    · skip
      refine Qf 2 rfl (Qa fun _ => Qd (Qb (Qm (Qb (Qc (Qf 7 rfl (Qa fun _ => Qd ?_)))))))
      refine Qh rfl (fun _ => ?_) (fun h => by cases h)
      refine Qb (Qc (Qe rfl rfl (Qa fun _ => Qd (Ql (QL (Q1 ?_))))))
      rw [ch_1 (by rw [h19]; rfl)]
      exact Qk rfl rfl rfl (.inr rfl)
  · skip
    refine Qf 2 rfl (Qa fun _ => Qd (Qb (Qc (Qo rfl rfl rfl rfl (nL rfl) rfl (XN [] rfl rfl (vc72 z2 lv2 hd2 h2.nl h2.nh) (.cons (Qg rfl) .nil) .nil rfl rfl rfl (Qf 3 rfl ?_))))))
    cases h24 : (fmS z2 lv2 hd2).isSome
    · skip
      refine Qf 2 rfl (Qa fun _ => Qd (Qb (Qm (Qb (Qc (Qf 7 rfl (Qa fun _ => Qd ?_)))))))
      refine Qh rfl (fun _ => ?_) (fun h => by cases h)
      refine Qb (Qc (Qe rfl rfl (Qa fun _ => Qd (Ql (QL (Q1 ?_))))))
      rw [ch_1 (by rw [h19, h24]; rfl)]
      exact Qk rfl rfl rfl (.inr rfl)
    · skip
      refine Qf 2 rfl (Qa fun _ => Qd (Qb (Qm (Qb (Qc (Qf 7 rfl (Qa fun _ => Qd ?_)))))))
      refine Qh rfl (fun h => by cases h) (fun _ => ?_)
      refine Qb (Q8 Xr (Qf 4 rfl (QE rfl rfl rfl rfl (fun h37 => ?_) (fun h37 => ?_))))
      · skip
        refine Qf 17 rfl (Qa ⟨by kernel_rfl, fun _ => ?_⟩)
        refine Qd (Qh rfl (fun _ => ?_) (fun h => by cases h))
        refine Qb (Qc (Qe rfl rfl (Qa fun _ => Qd (Ql (QL (Q1 ?_))))))
        rw [ch_2 (by rw [h19, h24]; rfl) (by rw [decide_eq_false h37]; rfl)]
        exact Qk rfl rfl rfl (.inr rfl)
      · skip
        refine Qf 5 rfl (Qi [] rfl rfl (vc78 hd hd2 (fun d hd => (h.b d hd).1) (fun d hd => (h2.b d hd).1) (by omega)) (.cons (Qg rfl) (.cons (Qg rfl) (.nil))) rfl ?_)
        cases h43 : decide (hd = hd2)
        · skip
          refine Qf 11 rfl (Qa ⟨by kernel_rfl, fun _ => ?_⟩)
          refine Qd (Qh rfl (fun _ => ?_) (fun h => by cases h))
          refine Qb (Qc (Qe rfl rfl (Qa fun _ => Qd (Ql (QL (Q1 ?_))))))
          rw [ch_2 (by rw [h19, h24]; rfl) (by rw [h43, Bool.and_false]; rfl)]
          exact Qk rfl rfl rfl (.inr rfl)
        · skip
          refine Qf 3 rfl (Qo rfl rfl rfl rfl (nL rfl) rfl (Qi [] rfl rfl (vc80 z lv hd h.nl) (.cons (Qg rfl) (.nil)) rfl (Qo rfl rfl rfl rfl (nL rfl) rfl (Qi [] rfl rfl (vc80 z2 lv2 hd2 h2.nl) (.cons (Qg rfl) (.nil)) rfl (Qi [] rfl rfl (vc79 (QN lv) (QN lv2) (by simp; omega)) (.cons (Qg rfl) (.cons (Qg rfl) (.nil))) rfl ?_)))))
          cases h51 : decide (QN lv = QN lv2)
          · skip
            refine Qf 3 rfl (Qa ⟨by kernel_rfl, fun _ => ?_⟩)
            refine Qd (Qh rfl (fun _ => ?_) (fun h => by cases h))
            refine Qb (Qc (Qe rfl rfl (Qa fun _ => Qd (Ql (QL (Q1 ?_))))))
            rw [ch_2 (by rw [h19, h24]; rfl) (by rw [h51, Bool.and_false])]
            exact Qk rfl rfl rfl (.inr rfl)
          · skip
            refine Qf 3 rfl (Qa ⟨by kernel_rfl, fun _ => ?_⟩)
            refine Qd (Qh rfl (fun h => by cases h) (fun _ => ?_))
            refine Qn (QI (Qd (Qb (Qb ?_))))
            have hfm : ((fmS z lv hd).isSome && (fmS z2 lv2 hd2).isSome) = true := by rw [h19, h24]; rfl
            have heq : (decide (z = z2) && decide (hd = hd2) && decide (QN lv = QN lv2)) = true := by rw [h43, h51, decide_eq_true (Decidable.byContradiction h37)]; rfl
            have hll : lv.length = lv2.length := by have := congrArg List.length (of_decide_eq_true h51); simpa using this
            refine Qc (Qf 2 rfl (Qq rfl rfl (Qe rfl rfl (Qa fun _ => Qd (Qm ?_)))))
            refine QC (α := Nat) (fun k => lv.length - k) (fun k => [(2, .ptr 2 0 0), (3, .ptr 3 0 0), (55, .rs 5 (lv.map cLf)), (56, iv (lv.length : Int)), (57, iv (((k) : Nat) : Int))]) (fun k => [(2, .cells 55 3 [[.int .i64 z, .rs 5 (lv.map cLf), .rs 1 (hd.map cS)]] true), (3, .cells 55 3 [[.int .i64 z2, .rs 5 (lv2.map cLf), .rs 1 (hd2.map cS)]] true)]) (fun k => k ≤ lv.length ∧ allZ XQ (lv.drop k) (lv2.drop k) = allZ XQ lv lv2) 0 (⟨by omega, rfl⟩)
              (Qj (.cs (.cs (.cs (.cs (.cs (.nil)))))) (.keep (rfl) rfl (.keep (rfl) rfl (.nil))) (fun i h => by cases h)) ?_
            rintro k ⟨hk, hinv⟩
            refine Qb (Qc (QJ rfl rfl rfl (Qa fun _ => Qd (Qb (Qh rfl (fun h58 => ?_) (fun h58 => ?_))))))
            · replace h58 := of_decide_eq_true h58
              refine Qn (Qd (Qb (Qm (Qb (Qc (Qe rfl rfl ?_))))))
              obtain ⟨x, hxk, hxm⟩ := Qy (L := lv) (k := k) (by omega)
              obtain ⟨y, hyk, hym⟩ := Qy (L := lv2) (k := k) (by omega)
              refine Qt (f := cLf) (y := x) rfl rfl rfl (by omega) hxk (QR (cs := cLf x) rfl rfl (nL rfl) rfl (Qf 2 rfl (Q0 rfl rfl rfl rfl rfl rfl rfl (nL rfl) rfl rfl (Qa fun _ => Qd (Qb (Qc (Qf 3 rfl (Qt (f := cLf) (y := y) rfl rfl rfl (by omega) hyk ?_))))))))
              refine QR (cs := cLf y) rfl rfl (nL rfl) rfl (QF rfl rfl rfl (Q0 rfl rfl rfl rfl rfl rfl rfl (nL rfl) rfl rfl (Qa fun _ => Qd (Qb (Qc (Qf 4 rfl (QE rfl rfl rfl rfl (fun h71 => ?_) (fun h71 => ?_))))))))
              · skip
                refine Qf 7 rfl (Qa fun _ => Qd (Qh rfl (fun _ => ?_) (fun h => by cases h)))
                refine Qb (Qc (Qe rfl rfl (Qa fun _ => Qd (Ql (QL (Q1 (Q1 (QL ?_))))))))
                refine Q1 ?_
                rw [ch_3 hfm heq (by rw [← hinv, XG hxk hyk, show XQ x y = false from by simp only [XQ, Bool.and_eq_false_iff, decide_eq_false_iff_not]; exact .inl h71]; rfl)]
                exact Qk rfl rfl rfl (.inr rfl)
              · skip
                refine Qf 5 rfl (rs_seq (r := decide (x.salt ≠ y.salt)) rfl rfl rfl ((h.ok x hxm).b) ((h2.ok y hym).b) (by by_cases e : x.salt = y.salt <;> simp [e]) ?_)
                cases h77 : decide (x.salt ≠ y.salt)
                · skip
                  refine QM rfl rfl rfl (Qa fun _ => Qd (Qh rfl (fun h => by cases h) (fun _ => ?_)))
                  refine Qn (QI (Qd (Qc (Qx rfl rfl rfl (by omega) (Qe rfl rfl (Qa fun _ => Qd ?_))))))
                  rw [XG hxk hyk, show XQ x y = true from by simp only [XQ, Bool.and_eq_true, decide_eq_true_eq]; exact ⟨Decidable.byContradiction h71, Decidable.byContradiction fun e => by rw [decide_eq_true e] at h77; cases h77⟩, Bool.true_and] at hinv
                  exact ⟨k + 1, ⟨by omega, hinv⟩, by omega, Qj (.cs (.cs (.cs (.cs (.cs (.nil)))))) (.keep (rfl) rfl (.keep (rfl) rfl (.nil))) (fun i h => by cases h)⟩
                · skip
                  refine QM rfl rfl rfl (Qa fun _ => Qd (Qh rfl (fun _ => ?_) (fun h => by cases h)))
                  refine Qb (Qc (Qe rfl rfl (Qa fun _ => Qd (Ql (QL (Q1 (Q1 (QL ?_))))))))
                  refine Q1 ?_
                  rw [ch_3 hfm heq (by rw [← hinv, XG hxk hyk, show XQ x y = false from by simp only [XQ, Bool.and_eq_false_iff, decide_eq_false_iff_not]; exact .inr (of_decide_eq_true h77)]; rfl)]
                  exact Qk rfl rfl rfl (.inr rfl)
            · replace h58 := of_decide_eq_false h58
              refine Q3 (QB (QB (QA (Qd (Qb (Qb ?_))))))
              have hws : allZ XQ lv lv2 = true := by rw [← hinv]; exact allZ_end (by omega)
              clear hinv
              refine Qc (Qf 2 rfl (Qq rfl rfl (Qe rfl rfl (Qa fun _ => Qd (Qm ?_)))))
              refine QC (α := Nat) (fun k => lv.length - k) (fun k => [(2, .ptr 2 0 0), (3, .ptr 3 0 0), (81, .rs 5 (lv.map cLf)), (82, iv (lv.length : Int)), (83, iv (((k) : Nat) : Int))]) (fun k => [(2, .cells 55 3 [[.int .i64 z, .rs 5 (lv.map cLf), .rs 1 (hd.map cS)]] true), (3, .cells 55 3 [[.int .i64 z2, .rs 5 (lv2.map cLf), .rs 1 (hd2.map cS)]] true)]) (fun k => k ≤ lv.length ∧ allZ XD (lv.drop k) (lv2.drop k) = allZ XD lv lv2) 0 (⟨by omega, rfl⟩)
                (Qj (.cs (.cs (.cs (.cs (.cs (.nil)))))) (.keep (rfl) rfl (.keep (rfl) rfl (.nil))) (fun i h => by cases h)) ?_
              rintro k ⟨hk, hinv⟩
              refine Qb (Qc (QJ rfl rfl rfl (Qa fun _ => Qd (Qb (Qh rfl (fun h84 => ?_) (fun h84 => ?_))))))
              · replace h84 := of_decide_eq_true h84
                refine Qn (Qd (Qb (Qm (Qb (Qc (Qe rfl rfl ?_))))))
                obtain ⟨x, hxk, hxm⟩ := Qy (L := lv) (k := k) (by omega)
                obtain ⟨y, hyk, hym⟩ := Qy (L := lv2) (k := k) (by omega)
                refine Qt (f := cLf) (y := x) rfl rfl rfl (by omega) hxk (QR (cs := cLf x) rfl rfl (nL rfl) rfl (Qf 2 rfl (Q0 rfl rfl rfl rfl rfl rfl rfl (nL rfl) rfl rfl (Qa fun _ => Qd (Qb (Qc (Qf 3 rfl (Qt (f := cLf) (y := y) rfl rfl rfl (by omega) hyk ?_))))))))
                refine QR (cs := cLf y) rfl rfl (nL rfl) rfl (QF rfl rfl rfl (Q0 rfl rfl rfl rfl rfl rfl rfl (nL rfl) rfl rfl (Qa fun _ => Qd (Qb (Qc (Qf 2 rfl ?_))))))
                cases h94 : x.sure
                · skip
                  refine Qf 8 rfl ?_
                  cases h102 : x.touched
                  · skip
                    refine Qf 6 rfl (Qa fun _ => Qd (Qh rfl (fun h => by cases h) (fun _ => ?_)))
                    refine Qn (QI (Qd (Qc (Qx rfl rfl rfl (by omega) (Qe rfl rfl (Qa fun _ => Qd ?_))))))
                    rw [XG hxk hyk, show XD x y = true from by simp only [XD, h94, h102]; rfl, Bool.true_and] at hinv
                    exact ⟨k + 1, ⟨by omega, hinv⟩, by omega, Qj (.cs (.cs (.cs (.cs (.cs (.nil)))))) (.keep (rfl) rfl (.keep (rfl) rfl (.nil))) (fun i h => by cases h)⟩
                  · skip
                    refine Qf 3 rfl ?_
                    cases h105 : y.touched
                    · skip
                      refine Qf 3 rfl (Qa fun _ => Qd (Qh rfl (fun _ => ?_) (fun h => by cases h)))
                      refine Qb (Qc (Qe rfl rfl (Qa fun _ => Qd (Ql (QL (Q1 (Q1 (QL ?_))))))))
                      refine Q1 ?_
                      rw [ch_4 hfm heq hws (by rw [← hinv, XG hxk hyk, show XD x y = false from by simp only [XD, h94, h102, h105]; rfl]; rfl)]
                      exact Qk rfl rfl rfl (.inr rfl)
                    · skip
                      refine Qf 3 rfl (Qa fun _ => Qd (Qh rfl (fun h => by cases h) (fun _ => ?_)))
                      refine Qn (QI (Qd (Qc (Qx rfl rfl rfl (by omega) (Qe rfl rfl (Qa fun _ => Qd ?_))))))
                      rw [XG hxk hyk, show XD x y = true from by simp only [XD, h94, h102, h105]; rfl, Bool.true_and] at hinv
                      exact ⟨k + 1, ⟨by omega, hinv⟩, by omega, Qj (.cs (.cs (.cs (.cs (.cs (.nil)))))) (.keep (rfl) rfl (.keep (rfl) rfl (.nil))) (fun i h => by cases h)⟩
                · skip
                  refine Qf 3 rfl ?_
                  cases h97 : y.sure
                  · skip
                    refine Qf 11 rfl (Qa fun _ => Qd (Qh rfl (fun _ => ?_) (fun h => by cases h)))
                    refine Qb (Qc (Qe rfl rfl (Qa fun _ => Qd (Ql (QL (Q1 (Q1 (QL ?_))))))))
                    refine Q1 ?_
                    rw [ch_4 hfm heq hws (by rw [← hinv, XG hxk hyk, show XD x y = false from by simp only [XD, h94, h97]; rfl]; rfl)]
                    exact Qk rfl rfl rfl (.inr rfl)
                  · skip
                    refine Qf 5 rfl ?_
                    cases h102 : x.touched
                    · skip
                      refine Qf 6 rfl (Qa fun _ => Qd (Qh rfl (fun h => by cases h) (fun _ => ?_)))
                      refine Qn (QI (Qd (Qc (Qx rfl rfl rfl (by omega) (Qe rfl rfl (Qa fun _ => Qd ?_))))))
                      rw [XG hxk hyk, show XD x y = true from by simp only [XD, h94, h97, h102]; rfl, Bool.true_and] at hinv
                      exact ⟨k + 1, ⟨by omega, hinv⟩, by omega, Qj (.cs (.cs (.cs (.cs (.cs (.nil)))))) (.keep (rfl) rfl (.keep (rfl) rfl (.nil))) (fun i h => by cases h)⟩
                    · skip
                      refine Qf 3 rfl ?_
                      cases h105 : y.touched
                      · skip
                        refine Qf 3 rfl (Qa fun _ => Qd (Qh rfl (fun _ => ?_) (fun h => by cases h)))
                        refine Qb (Qc (Qe rfl rfl (Qa fun _ => Qd (Ql (QL (Q1 (Q1 (QL ?_))))))))
                        refine Q1 ?_
                        rw [ch_4 hfm heq hws (by rw [← hinv, XG hxk hyk, show XD x y = false from by simp only [XD, h94, h97, h102, h105]; rfl]; rfl)]
                        exact Qk rfl rfl rfl (.inr rfl)
                      · skip
                        refine Qf 3 rfl (Qa fun _ => Qd (Qh rfl (fun h => by cases h) (fun _ => ?_)))
                        refine Qn (QI (Qd (Qc (Qx rfl rfl rfl (by omega) (Qe rfl rfl (Qa fun _ => Qd ?_))))))
                        rw [XG hxk hyk, show XD x y = true from by simp only [XD, h94, h97, h102, h105]; rfl, Bool.true_and] at hinv
                        exact ⟨k + 1, ⟨by omega, hinv⟩, by omega, Qj (.cs (.cs (.cs (.cs (.cs (.nil)))))) (.keep (rfl) rfl (.keep (rfl) rfl (.nil))) (fun i h => by cases h)⟩
              · replace h84 := of_decide_eq_false h84
                refine Q3 (QB (QB (QA (Qd (Qb (Qc (Qe rfl rfl (Qa fun _ => Qd ?_))))))))
                refine Ql ?_
                rw [ch_5 hfm heq hws (by rw [← hinv]; exact allZ_end (by omega))]
                exact Qk rfl rfl rfl (.inr rfl)
end Go.Proofs.YthfhaoogcpfboaaGreat

/-! Walks: VJ. -/
namespace Go.Proofs.YthfhaoogcpfboaaGreat
open Go.RowKit
set_option maxRecDepth 100000
set_option linter.unusedVariables false
def scs (x : Lf) : List Sc := [.i x.ix, .i x.want, .b x.sure, .b x.touched, .s (Qu x.salt).toList]
/-- Is a bit of a number set? -/
def bitB (s : Int) (k : Nat) : Bool := decide (bits .and .i64 (s.fdiv (2 ^ min k 64)) 1 = 1)
def JA (s : Int) (n : Nat) : List Int := ((List.range n).filter (bitB s)).map fun (k : Nat) => (k : Int)
theorem some_t {s : Int} {n : Nat} (h : bitB s n = true) : JA s (n + 1) = JA s n ++ [(n : Int)] := by
  unfold JA; rw [List.range_succ, List.filter_append, List.map_append]; simp [h]
theorem some_f {s : Int} {n : Nat} (h : bitB s n = false) : JA s (n + 1) = JA s n := by
  unfold JA; rw [List.range_succ, List.filter_append, List.map_append]; simp [h]
theorem some_len (s : Int) (n : Nat) : (JA s n).length ≤ n := by
  unfold JA; rw [List.length_map]; exact Nat.le_trans (List.length_filter_le _ _) (by simp)
theorem some_bd {s : Int} {n : Nat} : ∀ x ∈ JA s n, 0 ≤ x ∧ x < (n : Int) := fun x hx => by
  obtain ⟨k, hk, rfl⟩ := List.mem_map.1 hx
  have := List.mem_range.1 (List.mem_filter.1 hk).1
  omega
theorem some_ix (s : Int) {n : Nat} (h : n ≤ 16) : IxOK n (JA s n) where
  bd := some_bd
  n := Nat.le_trans (some_len s n) h
  inc k a b ha hb := by
    have hp : (JA s n).Pairwise (· < ·) := by
      unfold JA
      rw [List.pairwise_map]
      exact (List.pairwise_lt_range.filter _).imp fun h => by omega
    obtain ⟨h1, rfl⟩ := List.getElem?_eq_some_iff.1 ha
    obtain ⟨h2, rfl⟩ := List.getElem?_eq_some_iff.1 hb
    exact List.pairwise_iff_getElem.1 hp k (k + 1) h1 h2 (by omega)
/-- Leaves that numbers make. -/
def leafM (L : List Int) (k a : Nat) : Lf := ⟨k, 1 + nextV L (nextA L a) 3, decide (nextV L a 3 = 2), decide (nextV L a 3 > 0), XH [120] (XK k)⟩
def mkS (L : List Int) : Nat → List Lf × Nat
  | 0 => ([], nextA L 0)
  | k + 1 => ((mkS L k).1 ++ [leafM L k (mkS L k).2], nextA L (nextA L (mkS L k).2))
def nS (L : List Int) : Nat := 1 + (nextV L 0 16).toNat
def madeS (L : List Int) : List Lf := (mkS L (nS L)).1
theorem mkS_len (L : List Int) : ∀ k, (mkS L k).1.length = k
  | 0 => rfl
  | k + 1 => by show ((mkS L k).1 ++ [_]).length = _; rw [len_snoc, mkS_len L k]
theorem nS_bd (L : List Int) : 1 ≤ nS L ∧ nS L ≤ 16 := by have := nextV_range L 0 16 (by decide); unfold nS; omega
theorem nS_W (L : List Int) : W (1 + nextV L 0 16) = ((nS L : Nat) : Int) := by have := nextV_range L 0 16 (by decide); rw [W_eq (by omega)]; unfold nS; omega
theorem leafM_ok (L : List Int) {k : Nat} (hk : k ≤ 16) (a : Nat) : (leafM L k a).OK := by
  have := nextV_range L (nextA L a) 3 (by decide)
  exact ⟨show I64 (k : Int) from ⟨by omega, by omega⟩, show I64 (1 + nextV L (nextA L a) 3) from ⟨by omega, by omega⟩, (Jb _).1, by rw [show (leafM L k a).salt.length = 8 from (Jb _).2]; decide⟩
theorem mkS_at (L : List Int) : ∀ (n k : Nat) (x : Lf), (mkS L n).1[k]? = some x → x = leafM L k (mkS L k).2
  | 0, k, x, h => by cases h
  | n + 1, k, x, h => by
    by_cases hk : k < (mkS L n).1.length
    · rw [show (mkS L (n + 1)).1 = (mkS L n).1 ++ [leafM L n (mkS L n).2] from rfl, List.getElem?_append_left hk] at h
      exact mkS_at L n k x h
    · rw [show (mkS L (n + 1)).1 = (mkS L n).1 ++ [leafM L n (mkS L n).2] from rfl, List.getElem?_append_right (by omega)] at h
      have hkn : k = n := by have := mkS_len L n; have := lt_of_at h; simp only [List.length_cons, List.length_nil] at this; omega
      subst hkn
      rw [mkS_len, Nat.sub_self] at h
      injection h with h
      exact h.symm
theorem made_ok (L : List Int) : LvsOK (madeS L) where
  n := by unfold madeS; rw [mkS_len]; exact nS_bd L
  ix k x h := by rw [mkS_at L _ k x h]; rfl
  ok x hx := by
    obtain ⟨k, hk⟩ := List.mem_iff_getElem?.1 hx
    rw [mkS_at L _ k x hk]
    have h1 := lt_of_at hk
    have h2 := nS_bd L
    unfold madeS at h1
    rw [mkS_len] at h1
    exact leafM_ok L (by omega) _
def mcv14 : MC := (.seq (.reg [oN 2 (.mv (.c .nils)) []] false) (.seq (.reg [oM 8 0 [], oN 9 (.build [.nils, (.int .i64 0)] [(0, (1, (.t 8)))]) [0], oN 10 (.box 83 2 (.t 9)) [1], oM 3 10 [2, 0, 1, 2]] false) (.seq (.reg [oM 11 3 [], oN 12 (.call 46 [(.t 11), (.c (.int .i64 16))]) [0], oN 13 (.bin .add (.c (.int .i64 1)) (.t 12)) [1], oM 4 13 [2, 1, 0, 1, 2]] false) (.seq (.reg [oN 5 (.mv (.c .nils)) []] false) (.seq (.seq (.reg [oN 6 (.mv (.c (.int .i64 0))) []] false) (.block 0 (.loop (.seq (.seq (.reg [oM 14 6 [], oM 15 4 [], oN 16 (.bin .lss (.t 14) (.t 15)) [0, 1]] false) (.cond (.t 16) .skip (.exit 0))) (.seq (.block 1 (.seq (.reg [oM 19 3 [], oN 20 (.call 46 [(.t 19), (.c (.int .i64 3))]) [0], oM 7 20 [1, 1, 0, 1]] false) (.reg [oM 21 5 [], oM 22 6 [], oM 23 3 [], oN 24 (.call 46 [(.t 23), (.c (.int .i64 3))]) [2], oN 25 (.bin .add (.c (.int .i64 1)) (.t 24)) [3], oM 26 7 [], oN 27 (.bin .eql (.t 26) (.c (.int .i64 2))) [5], oM 28 7 [], oN 29 (.bin .gtr (.t 28) (.c (.int .i64 0))) [7], oM 30 6 [], oN 31 (.call 38 [(.t 30)]) [9, 3], oN 32 (.call 59 [(.c (.str (Qu [120]))), (.t 31)]) [10, 10], oN 33 (.build [(.int .i64 0), (.int .i64 0), (.bool false), (.bool false), (.str (Qu []))] [(0, (1, (.t 22))), (1, (1, (.t 25))), (2, (1, (.t 27))), (3, (1, (.t 29))), (4, (1, (.t 32)))]) [1, 4, 6, 8, 11], oN 34 (.bslice 51 5 [(.int .i64 0), (.int .i64 0), (.bool false), (.bool false), (.str (Qu []))] 1 [(0, (.t 33))]) [12], oN 35 (.app 51 5 40 [(.int .i64 0), (.int .i64 0), (.bool false), (.bool false), (.str (Qu []))] (.t 21) (.t 34)) [0, 13, 11], oM 5 35 [14, 14, 0, 1, 2, 3, 4, 5, 6, 7, 8, 9, 10, 11, 12, 13, 14]] false))) (.reg [oM 17 6 [], oN 18 (.bin .add (.t 17) (.c (.int .i64 1))) [0], oM 6 18 [1, 0, 1]] false)))))) (.seq (.reg [oM 36 5 [], oM 2 36 [0, 0]] false) .ret))))))
theorem mcOkv14 : (match Tryz.f14.body with | some c => Q2 Tryz.prog 37 c | none => none) = some mcv14 := by kernel_rfl
theorem vc14 (L : List Int) (hL : L.length ≤ 4611686018427387904) : FC Tryz.prog 14 [ints L] [] (.rs 5 ((madeS L).map cLf)) [] false := by
  have hnb := nS_bd L
  refine Qs (nt := 37) Tryz.func14 rfl rfl mcOkv14 (nL rfl) ?_
  delta mcv14
  refine Qb (Qc (Qe rfl rfl (Qa fun _ => Qd (Qb (Qc (Qf 4 rfl (Qa fun _ => Qd ?_)))))))
  refine Qb (Qc (Qe rfl rfl (XN [(10, drawOb 83 L (0))] rfl rfl (fc35 10 83 L (0) 16 (by decide) hL) (.cons (Qg rfl) (.cons (Qg rfl) (.nil))) (.cons rfl (.nil)) rfl rfl rfl (Xi rfl rfl rfl (nS_W L) (Qe rfl rfl (Qa fun _ => Qd (Qb (Qc ?_))))))))
  refine Qe rfl rfl (Qa fun _ => Qd (Qb (Qb (Qc (Qe rfl rfl (Qa fun _ => Qd (Qm ?_)))))))
  refine QC (α := Nat) (fun k => nS L - k) (fun k => [(3, .ptr 10 0 0), (4, iv ((nS L : Nat) : Int)), (5, .sl 1005 0 (k)), (6, iv (((k) : Nat) : Int))]) (fun k => [(10, drawOb 83 L (mkS L (k)).2), (1005, .cells 51 5 (((mkS L (k)).1).map cLf) true)]) (fun k => k ≤ nS L) 0 (by omega)
    (show Weak _ _ _ _ [(3, .ptr 10 0 0), (4, iv ((nS L : Nat) : Int)), (5, .sl 1005 0 (0)), (6, iv (((0) : Nat) : Int))] [(10, drawOb 83 L (nextA L 0)), (1005, .cells 51 5 [] true)] from Qj (.cs (.cs (.cons rfl (J7 rfl rfl) (.cs (.nil))))) (.keep (rfl) rfl (.virt rfl (.nil))) (fun i h => by cases h)) ?_
  intro k hk
  refine Qb (Qb (Qc (Qf 3 rfl (Qa fun _ => Qd (Qh rfl (fun h16 => ?_) (fun h16 => ?_))))))
  · replace h16 := of_decide_eq_true h16
    refine Qn (Qd (Qb (Qm (Qb (Qc (Qe rfl rfl ?_))))))
    have hv3 := nextV_range L (nextA L (mkS L k).2) 3 (by decide)
    refine XN [(10, drawOb 83 L ((mkS L k).2))] rfl rfl (fc35 10 83 L ((mkS L k).2) 3 (by decide) hL) (.cons (Qg rfl) (.cons (Qg rfl) (.nil))) (.cons rfl (.nil)) rfl rfl rfl (Qe rfl rfl (Qa fun _ => Qd (Qc (Qf 3 rfl (XN [(10, drawOb 83 L (nextA L (mkS L k).2))] rfl rfl (fc35 10 83 L (nextA L (mkS L k).2) 3 (by decide) hL) (.cons (Qg rfl) (.cons (Qg rfl) (.nil))) (.cons rfl (.nil)) rfl rfl rfl (Qx rfl rfl rfl (by omega) (Qe rfl rfl (rs_eql rfl rfl rfl ?_))))))))
    refine Qe rfl rfl (rs_gtr rfl rfl rfl (Qe rfl rfl (Qi [] rfl rfl (vc38 (k : Int) ⟨by omega, by omega⟩) (.cons (Qg rfl) (.nil)) rfl (Qi [] rfl rfl (vc59 [120] (XK (k : Int)) ⟨b8_c, by decide⟩ ⟨vint_8 _, Nat.le_trans (XA _) (by decide)⟩) (.cons (Qg rfl) (.cons (Qg rfl) (.nil))) rfl (QU rfl rfl (Qv (l := (([leafM L k (mkS L k).2] : List Lf)).flatMap cLf) (els := (([leafM L k (mkS L k).2] : List Lf)).map cLf) (fl := true) rfl (by kernel_rfl) rfl rfl (by kernel_rfl) (by kernel_rfl) (QV (f := cLf) (xs := (mkS L k).1) (y := leafM L k (mkS L k).2) (fl' := true) rfl rfl rfl rfl (mkS_len L k) rfl rfl rfl (by decide) rfl (by omega) (by omega) rfl (Qe rfl rfl (Qa fun _ => ?_)))))))))
    refine QI (Qd (Qc (Qe rfl rfl (Qx rfl rfl rfl (by omega) (Qe rfl rfl (Qa fun _ => Qd ?_))))))
    exact ⟨k + 1, by omega, by omega, QQ (i := 35) (i' := 1005) (F1 := [(3, .ptr 10 0 0), (4, iv ((nS L : Nat) : Int)), (5, .sl 35 0 (k + 1)), (6, iv (((k + 1) : Nat) : Int))]) (H1 := [(10, drawOb 83 L (mkS L (k + 1)).2), (35, .cells 51 5 (((mkS L (k + 1)).1).map cLf) true)]) (.cs (.cs (.cs (.cs (.nil))))) (.keep (rfl) rfl (.keep (rfl) rfl (.nil))) (fun i h => by cases h) rfl rfl (.cons rfl (.same _) (.cons rfl (.same _) (.cons rfl (.sl _ _) (.cons rfl (.same _) (.nil))))) (.cs (.cs (.cs (.cs (.nil))))) (.keep (rfl) rfl (.keep (rfl) rfl (.nil))) (fun i h => by cases h)⟩
  · replace h16 := of_decide_eq_false h16
    refine Q3 (QB (QB (QA (Qd (Qb (Qc (Qf 2 rfl (Qa fun _ => Qd ?_))))))))
    refine Ql ?_
    obtain rfl : k = nS L := by omega
    exact Q5 rfl (QK (f := cLf) (xs := madeS L) rfl rfl (mkS_len _ _) (fun _ => rfl)) .nil
def mcv21 : MC := (.seq (.reg [oN 4 (.mv (.c .nils)) []] false) (.seq (.reg [oN 5 (.mv (.c .nils)) []] false) (.seq (.seq (.reg [oN 6 (.mv (.c (.int .i64 0))) []] false) (.block 0 (.loop (.seq (.seq (.reg [oM 7 6 [], oM 8 1 [], oN 9 (.bin .lss (.t 7) (.t 8)) [0, 1]] false) (.cond (.t 9) .skip (.exit 0))) (.seq (.block 1 (.seq (.reg [oM 12 0 [], oM 13 6 [], oN 14 (.bin .shr (.t 12) (.t 13)) [0, 1], oN 15 (.bin .and (.t 14) (.c (.int .i64 1))) [2], oN 16 (.bin .eql (.t 15) (.c (.int .i64 1))) [3]] false) (.cond (.t 16) (.reg [oM 17 5 [], oM 18 6 [], oN 19 (.bslice 3 1 [(.int .i64 0)] 1 [(0, (.t 18))]) [1], oN 20 (.app 3 1 8 [(.int .i64 0)] (.t 17) (.t 19)) [0, 2], oM 5 20 [3, 3, 0, 1, 2, 3]] false) .skip))) (.reg [oM 10 6 [], oN 11 (.bin .add (.t 10) (.c (.int .i64 1))) [0], oM 6 11 [1, 0, 1]] false)))))) (.seq (.reg [oM 21 5 [], oM 4 21 [0, 0]] false) .ret))))
theorem mcOkv21 : (match Tryz.f21.body with | some c => Q2 Tryz.prog 22 c | none => none) = some mcv21 := by kernel_rfl
theorem vc21 (s : Int) (n : Nat) (hn : n ≤ 16) : FC Tryz.prog 21 [iv s, iv (n : Int)] [] (.rs 1 ((JA s n).map civ)) [] false := by
  refine Qs (nt := 22) Tryz.func21 rfl rfl mcOkv21 (nL rfl) ?_
  delta mcv21
  refine Qb (Qc (Qe rfl rfl (Qa fun _ => Qd (Qb (Qc (Qe rfl rfl (Qa fun _ => Qd ?_)))))))
  refine Qb (Qb (Qc (Qe rfl rfl (Qa fun _ => Qd (Qm ?_)))))
  refine QC (α := Nat) (fun k => n - k) (fun k => [(0, iv s), (1, iv (n : Int)), (5, .sl 1005 0 (JA s (k)).length), (6, iv (((k) : Nat) : Int))]) (fun k => [(1005, .cells 3 1 ((JA s (k)).map civ) true)]) (fun k => k ≤ n) 0 (by omega)
    (show Weak _ _ _ _ [(0, iv s), (1, iv (n : Int)), (5, .sl 1005 0 0), (6, iv ((0 : Nat) : Int))] [(1005, .cells 3 1 [] true)] from Qj (.cs (.cs (.cons rfl (J7 rfl rfl) (.cs (.nil))))) (.virt rfl (.nil)) (fun i h => by cases h)) ?_
  intro k hk
  refine Qb (Qb (Qc (Qf 3 rfl (Qa fun _ => Qd (Qh rfl (fun h9 => ?_) (fun h9 => ?_))))))
  · replace h9 := of_decide_eq_true h9
    refine Qn (Qd (Qb (Qm (Qb (Qc ?_)))))
    have hsl := some_len s k
    refine Qf 2 rfl (Jf rfl rfl rfl (by omega) rfl (rs_and rfl rfl rfl rfl (rs_eql rfl rfl rfl (Qa fun _ => Qd (Qh rfl (fun h16 => ?_) (fun h16 => ?_))))))
    · replace h16 := of_decide_eq_true h16
      refine Qc (Qf 2 rfl (Qv (l := (([(k : Int)] : List Int)).flatMap civ) (els := (([(k : Int)] : List Int)).map civ) (fl := true) rfl (by kernel_rfl) rfl rfl (by kernel_rfl) (by kernel_rfl) (QV (f := civ) (xs := JA s k) (y := (k : Int)) (fl' := true) rfl rfl rfl rfl (rfl) rfl rfl rfl (by decide) rfl (by omega) (by omega) rfl (Qe rfl rfl (Qa fun _ => QI (Qd (Qc (Qe rfl rfl ?_))))))))
      refine Qx rfl rfl rfl (by omega) (Qe rfl rfl (Qa fun _ => Qd ?_))
      have hb : bitB s k = true := decide_eq_true h16
      have e := some_t hb
      have e2 : (JA s (k + 1)).length = (JA s k).length + 1 := by rw [e, len_snoc]
      exact ⟨k + 1, by omega, by omega, by rw [e2, e]; exact QQ (i := 20) (i' := 1005) (F1 := [(0, iv s), (1, iv (n : Int)), (5, .sl 20 0 ((JA s k).length + 1)), (6, iv (((k + 1) : Nat) : Int))]) (H1 := [(20, .cells 3 1 ((JA s k ++ [(k : Int)]).map civ) true)]) (.cs (.cs (.cs (.cs (.nil))))) (.keep (rfl) rfl (.nil)) (fun i h => by cases h) rfl rfl (.cons rfl (.same _) (.cons rfl (.same _) (.cons rfl (.sl _ _) (.cons rfl (.same _) (.nil))))) (.cs (.cs (.cs (.cs (.nil))))) (.keep (rfl) rfl (.nil)) (fun i h => by cases h)⟩
    · replace h16 := of_decide_eq_false h16
      refine Qn (QI (Qd (Qc (Qe rfl rfl (Qx rfl rfl rfl (by omega) (Qe rfl rfl (Qa fun _ => Qd ?_)))))))
      have hb : bitB s k = false := decide_eq_false h16
      have e := some_f hb
      exact ⟨k + 1, by omega, by omega, by rw [e]; exact Qj (.cs (.cs (.cs (.cs (.nil))))) (.keep (rfl) rfl (.nil)) (fun i h => by cases h)⟩
  · replace h9 := of_decide_eq_false h9
    refine Q3 (QB (QB (QA (Qd (Qb (Qc (Qf 2 rfl (Qa fun _ => Qd ?_))))))))
    refine Ql ?_
    obtain rfl : k = n := by omega
    exact Q5 rfl (QK rfl rfl rfl (fun _ => rfl)) .nil
def mcv31 : MC := (.seq (.reg [oN 1 (.box 55 3 (.t 0)) [], oN 2 (.alloc 55 3 [(.int .i64 0), .nils, .nils]) []] false) (.seq (.reg [oA 3 0 1 [], oD 4 1 3 [0], oN 5 (.bslice 51 5 [(.int .i64 0), (.int .i64 0), (.bool false), (.bool false), (.str (Qu []))] 0 []) [], oA 6 1 1 [], oD 7 1 6 [3], oN 8 (.app 51 5 40 [(.int .i64 0), (.int .i64 0), (.bool false), (.bool false), (.str (Qu []))] (.t 5) (.t 7)) [2, 4], oN 9 (.bslice 9 1 [(.str (Qu []))] 0 []) [], oA 10 2 1 [], oD 11 1 10 [7], oN 12 (.app 9 1 16 [(.str (Qu []))] (.t 9) (.t 11)) [6, 8, 5], oN 13 (.build [(.int .i64 0), .nils, .nils] [(0, (1, (.t 4))), (1, (1, (.t 8))), (2, (1, (.t 12)))]) [1, 5, 9], ⟨none, (.st 3 (.t 2) (.t 13)), none, [10, 9, 0, 1, 2, 3, 4, 5, 6, 7, 8, 9, 10]⟩] true) .ret))
theorem mcOkv31 : (match Tryz.f31.body with | some c => Q2 Tryz.prog 14 c | none => none) = some mcv31 := by kernel_rfl
theorem vc31 (z : Int) (lv : List Lf) (hd : List (List Int)) (hlv : lv.length ≤ 64) (hhd : hd.length ≤ 64) : FC Tryz.prog 31 [.agg [.int .i64 z, .rs 5 (lv.map cLf), .rs 1 (hd.map cS)]] [] (.agg [.int .i64 z, .sl 8 0 lv.length, .sl 12 0 hd.length]) [(8, .cells 51 5 (lv.map cLf) true), (12, .cells 9 1 (hd.map cS) true)] false := by
  refine Qs (nt := 14) Tryz.func31 rfl rfl mcOkv31 (nL rfl) ?_
  delta mcv31
  refine Qb (Qc (Qf 2 rfl (Qa fun _ => Qd (Qb (Q8 Xr (Qf 2 rfl (Qv (l := []) (els := []) (fl := true) rfl (by kernel_rfl) rfl rfl rfl rfl (Qf 2 rfl ?_))))))))
  refine rs_app_e (f := cLf) (ys := lv) (n := lv.length) (rd := []) rfl rfl rfl rfl rfl rfl rfl (by simp) (fun _ => rfl) rfl (by omega) (by omega) (fun _ => rfl) (Qv (l := []) (els := []) (fl := true) rfl (by kernel_rfl) rfl rfl rfl rfl (Qf 2 rfl (rs_app_e (f := cS) (ys := hd) (n := hd.length) (rd := []) rfl rfl rfl rfl rfl rfl rfl (by simp) (fun _ => rfl) rfl (by omega) (by omega) (fun _ => rfl) (QU rfl rfl (Q0 rfl rfl rfl rfl rfl rfl rfl (nL rfl) rfl rfl (Qa ⟨by kernel_rfl, fun _ => ?_⟩))))))
  refine Qd (Ql ?_)
  exact Q5 rfl (Q6 rfl (.inr rfl)) (.keep rfl rfl (XR (fun _ => rfl) lv) (.keep rfl rfl (XR (fun _ => rfl) hd) .nil))
def mcv34 : MC := (.seq (.reg [oN 4 (.mv (.c (.bool false))) []] false) (.seq (.seq (.reg [oM 6 0 [], oN 7 (.len (.t 6)) [0], oM 8 1 [], oN 9 (.len (.t 8)) [2], oN 10 (.bin .neq (.t 7) (.t 9)) [1, 3]] false) (.cond (.t 10) (.seq (.reg [oN 4 (.mv (.c (.bool false))) []] false) .ret) .skip)) (.seq (.seq (.reg [oN 5 (.mv (.c (.int .i64 0))) []] false) (.block 0 (.loop (.seq (.seq (.reg [oM 11 5 [], oM 12 0 [], oN 13 (.len (.t 12)) [1], oN 14 (.bin .lss (.t 11) (.t 13)) [0, 2]] false) (.cond (.t 14) .skip (.exit 0))) (.seq (.block 1 (.seq (.reg [oM 17 0 [], oM 18 5 [], oN 19 (.ixsl 1 (.t 17) (.t 18)) [0, 1], oD 20 1 19 [2], oM 21 1 [], oM 22 5 [], oN 23 (.ixsl 1 (.t 21) (.t 22)) [4, 5], oD 24 1 23 [6], oN 25 (.seq true (.t 20) (.t 24)) [3, 7]] true) (.cond (.t 25) (.seq (.reg [oN 4 (.mv (.c (.bool false))) []] false) .ret) .skip))) (.reg [oM 15 5 [], oN 16 (.bin .add (.t 15) (.c (.int .i64 1))) [0], oM 5 16 [1, 0, 1]] false)))))) (.seq (.reg [oN 4 (.mv (.c (.bool true))) []] false) .ret))))
theorem mcOkv34 : (match Tryz.f34.body with | some c => Q2 Tryz.prog 26 c | none => none) = some mcv34 := by kernel_rfl
theorem vc34 (a b : List (List Int)) (ha : ∀ d ∈ a, B8 d) (hb : ∀ d ∈ b, B8 d) (han : a.length ≤ 4611686018427387904) : FC Tryz.prog 34 [.rs 1 (a.map cS), .rs 1 (b.map cS)] [] (.bool (decide (a = b))) [] false := by
  refine Qs (nt := 26) Tryz.func34 rfl rfl mcOkv34 (nL rfl) ?_
  delta mcv34
  refine Qb (Qc (Qe rfl rfl (Qa fun _ => Qd (Qb (Qb (Qc (Qe rfl rfl (Qq rfl rfl ?_))))))))
  refine Qe rfl rfl (Qq rfl rfl (JD rfl rfl rfl (Qa fun _ => Qd (Qh rfl (fun h10 => ?_) (fun h10 => ?_)))))
  · replace h10 := of_decide_eq_true h10
    refine Qb (Qc (Qe rfl rfl (Qa fun _ => Qd (Ql (Q1 ?_)))))
    rw [show decide (a = b) = false from decide_eq_false (fun e => h10 (by rw [e]))]
    exact Qk rfl rfl rfl (.inr rfl)
  · replace h10 := of_decide_eq_false h10
    refine Qn (Qd (Qb (Qb (Qc (Qe rfl rfl (Qa fun _ => Qd (Qm ?_)))))))
    refine QC (α := Nat) (fun k => a.length - k) (fun k => [(0, .rs 1 (a.map cS)), (1, .rs 1 (b.map cS)), (5, iv (((k) : Nat) : Int))]) (fun k => []) (fun k => k ≤ a.length ∧ a.take k = b.take k) 0 (⟨by omega, rfl⟩)
      (Qj (.cs (.cs (.cs (.nil)))) (.nil) (fun i h => by cases h)) ?_
    rintro k ⟨hk, hinv⟩
    refine Qb (Qb (Qc (Qf 2 rfl (Qq rfl rfl (QJ rfl rfl rfl (Qa fun _ => Qd (Qh rfl (fun h14 => ?_) (fun h14 => ?_))))))))
    · replace h14 := of_decide_eq_true h14
      refine Qn (Qd (Qb (Qm (Qb (Q8 Xr ?_)))))
      obtain ⟨x, hxk, hxm⟩ := Qy (L := a) (k := k) (by omega)
      obtain ⟨y, hyk, hym⟩ := Qy (L := b) (k := k) (by omega)
      refine Qf 2 rfl (Qt (f := cS) (y := x) rfl rfl rfl (by omega) hxk (Qf 3 rfl (Qt (f := cS) (y := y) rfl rfl rfl (by omega) hyk (Xh rfl rfl rfl (rs_seq (r := decide (x ≠ y)) rfl rfl rfl (ha x hxm) (hb y hym) (by by_cases e : x = y <;> simp [e]) (Qa ⟨by kernel_rfl, fun _ => ?_⟩))))))
      refine Qd (Qh rfl (fun h25 => ?_) (fun h25 => ?_))
      · replace h25 := of_decide_eq_true h25
        refine Qb (Qc (Qe rfl rfl (Qa fun _ => Qd (Ql (QL (Q1 (Q1 (QL ?_))))))))
        refine Q1 ?_
        rw [show decide (a = b) = false from decide_eq_false (eq_hit hxk hyk h25)]
        exact Qk rfl rfl rfl (.inr rfl)
      · replace h25 := of_decide_eq_false h25
        refine Qn (QI (Qd (Qc (Qe rfl rfl (Qx rfl rfl rfl (by omega) (Qe rfl rfl (Qa fun _ => Qd ?_)))))))
        exact ⟨k + 1, ⟨by omega, eq_step hinv hxk hyk (Decidable.byContradiction h25)⟩, by omega, Qj (.cs (.cs (.cs (.nil)))) (.nil) (fun i h => by cases h)⟩
    · replace h14 := of_decide_eq_false h14
      refine Q3 (QB (QB (QA (Qd (Qb (Qc (Qe rfl rfl (Qa fun _ => Qd ?_))))))))
      refine Ql ?_
      rw [show decide (a = b) = true from decide_eq_true (eq_end hinv (by omega) (by omega))]
      exact Qk rfl rfl rfl (.inr rfl)
end Go.Proofs.YthfhaoogcpfboaaGreat

/-! Walks: VK. -/
namespace Go.Proofs.YthfhaoogcpfboaaGreat
open Go.RowKit
set_option maxRecDepth 100000
set_option linter.unusedVariables false
end Go.Proofs.YthfhaoogcpfboaaGreat

/-! Walks: VL. -/
namespace Go.Proofs.YthfhaoogcpfboaaGreat
open Go.RowKit
set_option maxRecDepth 100000
set_option linter.unusedVariables false
structure Pl where
  n : V3
  b : Int
deriving DecidableEq
structure Pt where
  x : Int
  y : Int
  z : Int
  w : Int
deriving DecidableEq
abbrev cPl (p : Pl) : List AV := [.int .i64 p.n.x, .int .i64 p.n.y, .int .i64 p.n.z, .int .i64 p.b]
abbrev cPt (p : Pt) : List AV := [.int .i64 p.x, .int .i64 p.y, .int .i64 p.z, .int .i64 p.w]
abbrev c12 (p q r : Pl) : List AV := [.int .i64 p.n.x, .int .i64 p.n.y, .int .i64 p.n.z, .int .i64 p.b, .int .i64 q.n.x, .int .i64 q.n.y, .int .i64 q.n.z, .int .i64 q.b, .int .i64 r.n.x, .int .i64 r.n.y, .int .i64 r.n.z, .int .i64 r.b]
def JC (v : V3) (n : Int) : V3 := ⟨W (v.x * n), W (v.y * n), W (v.z * n)⟩
/-- How far a point lies within a half-space. -/
def roomS (p : Pl) (x : Pt) : Int := W (W (p.b * x.w) - dotW p.n ⟨x.x, x.y, x.z⟩)
def outB (x : Pt) (p : Pl) : Bool := decide (roomS p x < 0)
def inB (p : Pl) (x : Pt) : Bool := decide (roomS p x > 0)
def withS (r : List Pl) (x : Pt) : Bool := !r.any (outB x)
/-- The sums on the way to the point of three planes. -/
def sumS (p q r : Pl) : Nat → V3
  | 0 => ⟨0, 0, 0⟩
  | 1 => addW ⟨0, 0, 0⟩ (JC (Xx q.n r.n) p.b)
  | 2 => addW (addW ⟨0, 0, 0⟩ (JC (Xx q.n r.n) p.b)) (JC (Xx r.n p.n) q.b)
  | _ => addW (addW (addW ⟨0, 0, 0⟩ (JC (Xx q.n r.n) p.b)) (JC (Xx r.n p.n) q.b)) (JC (Xx p.n q.n) r.b)
def wdS (p q r : Pl) : Nat → Int
  | 0 => 0
  | 1 => dotW p.n (Xx q.n r.n)
  | 2 => dotW q.n (Xx r.n p.n)
  | _ => dotW r.n (Xx p.n q.n)
def Jm (p q r : Pl) : V3 := sumS p q r 3
def wd3 (p q r : Pl) : Int := wdS p q r 3
def g3 (p q r : Pl) : Int := if wd3 p q r < 0 then -(gL [(Jm p q r).x, (Jm p q r).y, (Jm p q r).z, wd3 p q r] : Int) else (gL [(Jm p q r).x, (Jm p q r).y, (Jm p q r).z, wd3 p q r] : Int)
/-- The point of three planes. -/
def mtP (p q r : Pl) : Pt := ⟨W ((Jm p q r).x.tdiv (g3 p q r)), W ((Jm p q r).y.tdiv (g3 p q r)), W ((Jm p q r).z.tdiv (g3 p q r)), W ((wd3 p q r).tdiv (g3 p q r))⟩
/-- Numbers that stay small. -/
def okT (p q r : Pl) : Bool := [(Jm p q r).x, (Jm p q r).y, (Jm p q r).z, wd3 p q r].all fun n => decide (-1000000000000000 ≤ n ∧ n ≤ 1000000000000000)
theorem okT_all {p q r : Pl} (h : okT p q r = true) : ∀ x ∈ [(Jm p q r).x, (Jm p q r).y, (Jm p q r).z, wd3 p q r], -1000000000000000 ≤ x ∧ x ≤ 1000000000000000 := fun x hx => of_decide_eq_true (List.all_eq_true.1 h x hx)
theorem gcd_st2 (a b : Int) (h : b ≠ 0) : Nat.gcd b.natAbs (a.tmod b).natAbs = Nat.gcd a.natAbs b.natAbs := by
  rw [Int.natAbs_tmod, Nat.gcd_comm a.natAbs, Nat.gcd_rec b.natAbs a.natAbs, Nat.gcd_comm]
theorem tmod_lt (a b : Int) (h : b ≠ 0) : (a.tmod b).natAbs < b.natAbs := by
  rw [Int.natAbs_tmod]; exact Nat.mod_lt _ (by omega)
theorem gL_pos {l : List Int} {x : Int} (h : x ∈ l) (hx : x ≠ 0) : 0 < gL l := by
  have key : ∀ (l : List Int) (g : Nat), (0 < g ∨ ∃ x ∈ l, x ≠ 0) → 0 < l.foldl (fun g n => Nat.gcd g n.natAbs) g := by
    intro l
    induction l with
    | nil => intro g h; rcases h with h | ⟨x, hx, _⟩; · exact h
             · cases hx
    | cons a l ih =>
      intro g h
      rw [List.foldl_cons]
      refine ih _ ?_
      by_cases ha : a = 0
      · rcases h with h | ⟨x, hx, h0⟩
        · exact .inl (Nat.gcd_pos_of_pos_left _ h)
        · rcases List.mem_cons.1 hx with rfl | hx
          · exact absurd ha h0
          · exact .inr ⟨x, hx, h0⟩
      · exact .inl (Nat.gcd_pos_of_pos_right _ (by omega))
  exact key l 0 (.inr ⟨x, h, hx⟩)
theorem gL_le {l : List Int} {x : Int} {m : Nat} (h : x ∈ l) (hx : x ≠ 0) (hm : x.natAbs ≤ m) : gL l ≤ m := by
  have key : ∀ (l : List Int) (g : Nat), (l.foldl (fun g n => Nat.gcd g n.natAbs) g) ∣ g ∧ ∀ x ∈ l, (l.foldl (fun g n => Nat.gcd g n.natAbs) g) ∣ x.natAbs := by
    intro l
    induction l with
    | nil => intro g; exact ⟨Nat.dvd_refl _, fun x hx => by cases hx⟩
    | cons a l ih =>
      intro g
      obtain ⟨h1, h2⟩ := ih (Nat.gcd g a.natAbs)
      rw [List.foldl_cons]
      refine ⟨Nat.dvd_trans h1 (Nat.gcd_dvd_left _ _), fun x hx => ?_⟩
      rcases List.mem_cons.1 hx with rfl | hx
      · exact Nat.dvd_trans h1 (Nat.gcd_dvd_right _ _)
      · exact h2 x hx
  exact Nat.le_trans (Nat.le_of_dvd (by omega) ((key l 0).2 x h)) hm
def mcv211 : MC := (.seq (.reg [oN 2 (.box 88 3 (.t 0)) [], oN 4 (.alloc 88 3 [(.int .i64 0), (.int .i64 0), (.int .i64 0)]) []] false) (.seq (.reg [oA 5 0 2 [], oD 6 1 5 [0], oM 7 1 [], oN 8 (.bin .mul (.t 6) (.t 7)) [1, 2], oA 9 1 2 [], oD 10 1 9 [4], oM 11 1 [], oN 12 (.bin .mul (.t 10) (.t 11)) [5, 6], oA 13 2 2 [], oD 14 1 13 [8], oM 15 1 [], oN 16 (.bin .mul (.t 14) (.t 15)) [9, 10], oN 17 (.build [(.int .i64 0), (.int .i64 0), (.int .i64 0)] [(0, (1, (.t 8))), (1, (1, (.t 12))), (2, (1, (.t 16)))]) [3, 7, 11], ⟨none, (.st 3 (.t 4) (.t 17)), none, [12, 0, 1, 2, 3, 4, 5, 6, 7, 8, 9, 10, 11, 12]⟩] false) .ret))
theorem mcOkv211 : (match Tryz.f211.body with | some c => Q2 Tryz.prog 18 c | none => none) = some mcv211 := by kernel_rfl
theorem vc211 (v : V3) (n : Int) : FC Tryz.prog 211 [aV v, iv n] [] (aV (JC v n)) [] false := by
  refine Qs (nt := 18) Tryz.func211 rfl rfl mcOkv211 (nL rfl) ?_
  delta mcv211
  refine Qb (Qc (Qf 2 rfl (Qa fun _ => Qd (Qb (Qc (Qf 3 rfl (Xe rfl rfl rfl rfl (Qf 3 rfl ?_))))))))
  refine Xe rfl rfl rfl rfl (Qf 3 rfl (Xe rfl rfl rfl rfl (QU rfl rfl (Q0 rfl rfl rfl rfl rfl rfl rfl (nL rfl) rfl rfl (Qa fun _ => Qd (Ql ?_))))))
  exact Qk rfl rfl rfl (.inr rfl)
def mcv166 : MC := (.seq (.reg [oN 2 (.box 90 4 (.t 0)) [], oN 3 (.box 174 4 (.t 1)) [], oN 4 (.mv (.c (.int .i64 0))) []] false) (.seq (.reg [oA 5 3 2 [], oD 6 1 5 [0], oA 7 3 3 [], oD 8 1 7 [2], oN 9 (.bin .mul (.t 6) (.t 8)) [1, 3], oA 10 0 2 [], oN 11 (.ld true 3 (.t 10)) [5], oA 12 0 3 [], oD 13 1 12 [7], oA 14 1 3 [], oD 15 1 14 [9], oA 16 2 3 [], oD 17 1 16 [11], oN 18 (.build [(.int .i64 0), (.int .i64 0), (.int .i64 0)] [(0, (1, (.t 13))), (1, (1, (.t 15))), (2, (1, (.t 17)))]) [8, 10, 12], oN 19 (.call 190 [(.t 11), (.t 18)]) [6, 13], oN 20 (.bin .sub (.t 9) (.t 19)) [4, 14], oM 4 20 [15, 14, 0, 1, 2, 3, 4, 5, 6, 7, 8, 9, 10, 11, 12, 13, 14, 15]] true) .ret))
theorem mcOkv166 : (match Tryz.f166.body with | some c => Q2 Tryz.prog 21 c | none => none) = some mcv166 := by kernel_rfl
theorem vc166 (p : Pl) (x : Pt) : FC Tryz.prog 166 [.agg (cPl p), .agg (cPt x)] [] (iv (roomS p x)) [] false := by
  refine Qs (nt := 21) Tryz.func166 rfl rfl mcOkv166 (nL rfl) ?_
  delta mcv166
  refine Qb (Qc (Qf 3 rfl (Qa fun _ => Qd (Qb (Q8 Xr (Qf 4 rfl (Xe rfl rfl rfl rfl (Q9 rfl rfl ?_))))))))
  refine Qo rfl rfl rfl rfl (nL rfl) rfl (Qf 7 rfl (Qi [] rfl rfl (fc30 p.n ⟨x.x, x.y, x.z⟩) (.cons (Qg rfl) (.cons (Qg rfl) (.nil))) rfl (Jv rfl rfl rfl rfl (Qe rfl rfl (Qa ⟨by kernel_rfl, fun _ => ?_⟩)))))
  refine Qd (Ql ?_)
  exact Qk rfl rfl rfl (.inr rfl)
def mcv213 : MC := (.seq (.reg [oN 2 (.box 90 4 (.t 0)) [], oN 3 (.mv (.c (.bool false))) []] false) (.seq (.reg [oN 4 (.ld true 4 (.t 2)) [], oN 5 (.ld true 4 (.t 1)) [], oN 6 (.call 166 [(.t 4), (.t 5)]) [0, 1], oN 7 (.bin .lss (.t 6) (.c (.int .i64 0))) [2], oM 3 7 [3, 2, 0, 1, 2, 3]] false) .ret))
theorem mcOkv213 : (match Tryz.f213.body with | some c => Q2 Tryz.prog 8 c | none => none) = some mcv213 := by kernel_rfl
theorem vc213 (x : Pt) (p : Pl) : FC Tryz.prog 213 [.agg (cPl p), .rp (cPt x)] [] (.bool (outB x p)) [] false := by
  refine Qs (nt := 8) Tryz.func213 rfl rfl mcOkv213 (nL rfl) ?_
  delta mcv213
  refine Qb (Qc (Qf 2 rfl (Qa fun _ => Qd (Qb (Qc (Qo rfl rfl rfl rfl (nL rfl) rfl (QR rfl rfl (nL rfl) rfl (Qi [] rfl rfl (vc166 p x) (.cons (Qg rfl) (.cons (Qg rfl) (.nil))) rfl ?_))))))))
  refine Qf 2 rfl (Qa fun _ => Qd (Ql ?_))
  exact Qk rfl rfl rfl (.inr rfl)
def mcv165 : MC := (.seq (.reg [oN 2 (.box 174 4 (.t 0)) [], oN 3 (.mv (.c (.bool false))) []] false) (.seq (.reg [oN 4 (.ld true 4 (.t 1)) [], oN 5 (.ld true 4 (.t 2)) [], oN 6 (.call 166 [(.t 4), (.t 5)]) [0, 1], oN 7 (.bin .gtr (.t 6) (.c (.int .i64 0))) [2], oM 3 7 [3, 2, 0, 1, 2, 3]] false) .ret))
theorem mcOkv165 : (match Tryz.f165.body with | some c => Q2 Tryz.prog 8 c | none => none) = some mcv165 := by kernel_rfl
theorem vc165 (p : Pl) (x : Pt) : FC Tryz.prog 165 [.agg (cPt x), .rp (cPl p)] [] (.bool (inB p x)) [] false := by
  refine Qs (nt := 8) Tryz.func165 rfl rfl mcOkv165 (nL rfl) ?_
  delta mcv165
  refine Qb (Qc (Qf 2 rfl (Qa fun _ => Qd (Qb (Qc (QR rfl rfl (nL rfl) rfl (Qo rfl rfl rfl rfl (nL rfl) rfl (Qi [] rfl rfl (vc166 p x) (.cons (Qg rfl) (.cons (Qg rfl) (.nil))) rfl ?_))))))))
  refine rs_gtr rfl rfl rfl (Qe rfl rfl (Qa fun _ => Qd (Ql ?_)))
  exact Qk rfl rfl rfl (.inr rfl)
def mcv181 : MC := (.seq (.reg [oN 4 (.mv (.c (.int .i64 0))) []] false) (.seq (.seq (.reg [oM 6 0 [], oN 7 (.len (.t 6)) [0], oN 8 (.mv (.c (.int .i64 0))) []] false) (.block 0 (.loop (.seq (.reg [oN 9 (.bin .lss (.t 8) (.t 7)) []] false) (.seq (.cond (.t 9) .skip (.exit 0)) (.seq (.block 1 (.seq (.reg [oM 10 8 [], oM 5 10 [0, 0]] false) (.seq (.reg [oM 11 1 [], oM 12 0 [], oM 13 5 [], oN 14 (.ixsl 4 (.t 12) (.t 13)) [1, 2], oN 15 (.ld true 4 (.t 14)) [3], oN 16 (.callv (.t 11) [(.t 15)]) [0, 4]] false) (.cond (.t 16) (.seq (.reg [oM 17 5 [], oM 4 17 [0, 0]] false) .ret) .skip)))) (.reg [oN 18 (.bin .add (.t 8) (.c (.int .i64 1))) [], oM 8 18 [0]] false))))))) (.seq (.reg [oN 4 (.mv (.c (.int .i64 (-1)))) []] false) .ret)))
theorem mcOkv181 : (match Tryz.f181.body with | some c => Q2 Tryz.prog 19 c | none => none) = some mcv181 := by kernel_rfl
theorem vcI_outs (x0 : Pt) (xs : List Pl) (hxn : xs.length ≤ 4611686018427387904) : FC Tryz.prog 181 [.rs 4 (xs.map cPl), (.fn (.func 213) [.rp (cPt x0)])] [] (.int .i64 (Xw (outB x0) xs 0)) [] false := by
  refine Qs (nt := 19) Tryz.func181 rfl rfl mcOkv181 (nL rfl) ?_
  delta mcv181
  refine Qb (Qc (Qe rfl rfl (Qa fun _ => Qd (Qb (Qb (Qc (Qe rfl rfl (Qq rfl rfl ?_))))))))
  refine Qe rfl rfl (Qa fun _ => Qd (Qm ?_))
  refine QC (α := Nat) (fun k => xs.length - k) (fun k => [(0, .rs 4 (xs.map cPl)), (1, (.fn (.func 213) [.rp (cPt x0)])), (6, .rs 4 (xs.map cPl)), (7, iv (xs.length : Int)), (8, iv (((k) : Nat) : Int))]) (fun k => []) (fun k => k ≤ xs.length ∧ Xw (outB x0) (xs.drop k) k = Xw (outB x0) xs 0) 0 (⟨by omega, rfl⟩)
    (Qj (.cs (.cs (.cs (.cs (.cs (.nil)))))) (.nil) (fun i h => by cases h)) ?_
  rintro k ⟨hk, hinv⟩
  refine Qb (Qc (QJ rfl rfl rfl (Qa fun _ => Qd (Qb (Qh rfl (fun h9 => ?_) (fun h9 => ?_))))))
  · replace h9 := of_decide_eq_true h9
    refine Qn (Qd (Qb (Qm (Qb (Qc (Qf 2 rfl (Qa fun _ => Qd (Qb ?_))))))))
    refine Qc (Qf 3 rfl ?_)
    obtain ⟨x, hxk, hxm⟩ := Qy (L := xs) (k := k) (by omega)
    rw [JM hxk] at hinv
    
    refine Qt (f := cPl) (y := x) rfl rfl rfl (by omega) hxk (QR (cs := cPl x) rfl rfl (nL rfl) rfl (X5 [] rfl rfl (by kernel_rfl) rfl (fc_up (vc213 x0 x)) (.cons (Qg rfl) (.cons (Qg rfl) (.nil))) .nil rfl rfl rfl ?_))
    cases h16 : (outB x0) x
    · skip
      refine Qa fun _ => Qd (Qh rfl (fun h => by cases h) (fun _ => ?_))
      refine Qn (QI (Qd (Qc (Qx rfl rfl rfl (by omega) (Qe rfl rfl (Qa fun _ => Qd ?_))))))
      rw [h16] at hinv
      exact ⟨k + 1, ⟨by omega, hinv⟩, by omega, Qj (.cs (.cs (.cs (.cs (.cs (.nil)))))) (.nil) (fun i h => by cases h)⟩
    · skip
      refine Qa fun _ => Qd (Qh rfl (fun _ => ?_) (fun h => by cases h))
      refine Qb (Qc (Qf 2 rfl (Qa fun _ => Qd (Ql (QL (Q1 (Q1 (QL ?_))))))))
      refine Q1 ?_
      rw [h16] at hinv
      rw [← hinv]
      exact Qk rfl rfl rfl (.inr rfl)
  · replace h9 := of_decide_eq_false h9
    refine Q3 (QB (QB (QA (Qd (Qb (Qc (Qe rfl rfl (Qa fun _ => Qd ?_))))))))
    refine Ql ?_
    rw [J3 (by omega)] at hinv
    rw [← hinv]
    exact Qk rfl rfl rfl (.inr rfl)
def mcv155 : MC := (.seq (.reg [oN 4 (.mv (.c (.bool false))) []] false) (.seq (.reg [oM 5 0 [], oM 6 1 [], oN 7 (.call 181 [(.t 5), (.t 6)]) [0, 1], oN 8 (.bin .geq (.t 7) (.c (.int .i64 0))) [2], oM 4 8 [3, 2, 0, 1, 2, 3]] false) .ret))
theorem mcOkv155 : (match Tryz.f155.body with | some c => Q2 Tryz.prog 9 c | none => none) = some mcv155 := by kernel_rfl
theorem vcC_outs (x0 : Pt) (xs : List Pl) (hxn : xs.length ≤ 4611686018427387904) : FC Tryz.prog 155 [.rs 4 (xs.map cPl), (.fn (.func 213) [.rp (cPt x0)])] [] (.bool (xs.any (outB x0))) [] false := by
  refine Qs (nt := 9) Tryz.func155 rfl rfl mcOkv155 (nL rfl) ?_
  delta mcv155
  refine Qb (Qc (Qe rfl rfl (Qa fun _ => Qd (Qb (Qc (Qf 2 rfl (Qi [] rfl rfl (vcI_outs x0 xs hxn) (.cons (Qg rfl) (.cons (Qg rfl) (.nil))) rfl (XM rfl rfl rfl ?_))))))))
  refine Qe rfl rfl (Qa fun _ => Qd (Ql ?_))
  rw [← Jt]
  exact Qk rfl rfl rfl (.inr rfl)
def mcv187 : MC := (.seq (.reg [oN 3 (.box 174 4 (.t 1)) [], oN 4 (.mv (.c (.bool false))) []] false) (.seq (.reg [oM 5 0 [], oN 6 (.mkfn (.func 213) [(.t 3)]) [], oN 7 (.call 155 [(.t 5), (.t 6)]) [0, 1], oN 8 (.un .not (.t 7)) [2], oM 4 8 [3, 2, 0, 1, 2, 3]] false) .ret))
theorem mcOkv187 : (match Tryz.f187.body with | some c => Q2 Tryz.prog 9 c | none => none) = some mcv187 := by kernel_rfl
theorem vc187 (r : List Pl) (x : Pt) (hr : r.length ≤ 1000) : FC Tryz.prog 187 [.rs 4 (r.map cPl), .agg (cPt x)] [] (.bool (withS r x)) [] false := by
  refine Qs (nt := 9) Tryz.func187 rfl rfl mcOkv187 (nL rfl) ?_
  delta mcv187
  refine Qb (Qc (Qf 2 rfl (Qa fun _ => Qd (Qb (Xm (F0 := [(0, .rs 4 (r.map cPl)), (3, .rp (cPt x))]) (H0 := []) (Qj (.cs (.cons rfl (XS rfl rfl (.inl rfl)) (.nil))) (.nil) (fun i h => by cases h)) (Qc (Qf 2 rfl (Qi [] rfl rfl (vcC_outs x r (by omega)) (.cons (Qg rfl) (.cons (Qg rfl) (.nil))) rfl ?_))))))))
  refine Qf 2 rfl (Qa fun _ => Qd (Ql ?_))
  exact Qk rfl rfl rfl (.inr rfl)
def mcv189 : MC := (.seq (.reg [oN 4 (.mv (.c (.int .i64 0))) []] false) (.seq (.seq (.reg [oM 6 0 [], oN 7 (.len (.t 6)) [0], oN 8 (.mv (.c (.int .i64 0))) []] false) (.block 0 (.loop (.seq (.reg [oN 9 (.bin .lss (.t 8) (.t 7)) []] false) (.seq (.cond (.t 9) .skip (.exit 0)) (.seq (.block 1 (.seq (.reg [oM 10 8 [], oM 5 10 [0, 0]] false) (.seq (.reg [oM 11 1 [], oM 12 0 [], oM 13 5 [], oN 14 (.ixsl 4 (.t 12) (.t 13)) [1, 2], oN 15 (.ld true 4 (.t 14)) [3], oN 16 (.callv (.t 11) [(.t 15)]) [0, 4]] false) (.cond (.t 16) (.seq (.reg [oM 17 5 [], oM 4 17 [0, 0]] false) .ret) .skip)))) (.reg [oN 18 (.bin .add (.t 8) (.c (.int .i64 1))) [], oM 8 18 [0]] false))))))) (.seq (.reg [oN 4 (.mv (.c (.int .i64 (-1)))) []] false) .ret)))
theorem mcOkv189 : (match Tryz.f189.body with | some c => Q2 Tryz.prog 19 c | none => none) = some mcv189 := by kernel_rfl
theorem vcI_ins (p0 : Pl) (xs : List Pt) (hxn : xs.length ≤ 4611686018427387904) : FC Tryz.prog 189 [.rs 4 (xs.map cPt), (.fn (.func 165) [.rp (cPl p0)])] [] (.int .i64 (Xw (inB p0) xs 0)) [] false := by
  refine Qs (nt := 19) Tryz.func189 rfl rfl mcOkv189 (nL rfl) ?_
  delta mcv189
  refine Qb (Qc (Qe rfl rfl (Qa fun _ => Qd (Qb (Qb (Qc (Qe rfl rfl (Qq rfl rfl ?_))))))))
  refine Qe rfl rfl (Qa fun _ => Qd (Qm ?_))
  refine QC (α := Nat) (fun k => xs.length - k) (fun k => [(0, .rs 4 (xs.map cPt)), (1, (.fn (.func 165) [.rp (cPl p0)])), (6, .rs 4 (xs.map cPt)), (7, iv (xs.length : Int)), (8, iv (((k) : Nat) : Int))]) (fun k => []) (fun k => k ≤ xs.length ∧ Xw (inB p0) (xs.drop k) k = Xw (inB p0) xs 0) 0 (⟨by omega, rfl⟩)
    (Qj (.cs (.cs (.cs (.cs (.cs (.nil)))))) (.nil) (fun i h => by cases h)) ?_
  rintro k ⟨hk, hinv⟩
  refine Qb (Qc (QJ rfl rfl rfl (Qa fun _ => Qd (Qb (Qh rfl (fun h9 => ?_) (fun h9 => ?_))))))
  · replace h9 := of_decide_eq_true h9
    refine Qn (Qd (Qb (Qm (Qb (Qc (Qf 2 rfl (Qa fun _ => Qd (Qb ?_))))))))
    refine Qc (Qf 3 rfl ?_)
    obtain ⟨x, hxk, hxm⟩ := Qy (L := xs) (k := k) (by omega)
    rw [JM hxk] at hinv
    
    refine Qt (f := cPt) (y := x) rfl rfl rfl (by omega) hxk (QR (cs := cPt x) rfl rfl (nL rfl) rfl (X5 [] rfl rfl (by kernel_rfl) rfl (fc_up (vc165 p0 x)) (.cons (Qg rfl) (.cons (Qg rfl) (.nil))) .nil rfl rfl rfl ?_))
    cases h16 : (inB p0) x
    · skip
      refine Qa fun _ => Qd (Qh rfl (fun h => by cases h) (fun _ => ?_))
      refine Qn (QI (Qd (Qc (Qx rfl rfl rfl (by omega) (Qe rfl rfl (Qa fun _ => Qd ?_))))))
      rw [h16] at hinv
      exact ⟨k + 1, ⟨by omega, hinv⟩, by omega, Qj (.cs (.cs (.cs (.cs (.cs (.nil)))))) (.nil) (fun i h => by cases h)⟩
    · skip
      refine Qa fun _ => Qd (Qh rfl (fun _ => ?_) (fun h => by cases h))
      refine Qb (Qc (Qf 2 rfl (Qa fun _ => Qd (Ql (QL (Q1 (Q1 (QL ?_))))))))
      refine Q1 ?_
      rw [h16] at hinv
      rw [← hinv]
      exact Qk rfl rfl rfl (.inr rfl)
  · replace h9 := of_decide_eq_false h9
    refine Q3 (QB (QB (QA (Qd (Qb (Qc (Qe rfl rfl (Qa fun _ => Qd ?_))))))))
    refine Ql ?_
    rw [J3 (by omega)] at hinv
    rw [← hinv]
    exact Qk rfl rfl rfl (.inr rfl)
def mcv164 : MC := (.seq (.reg [oN 4 (.mv (.c (.bool false))) []] false) (.seq (.reg [oM 5 0 [], oM 6 1 [], oN 7 (.call 189 [(.t 5), (.t 6)]) [0, 1], oN 8 (.bin .geq (.t 7) (.c (.int .i64 0))) [2], oM 4 8 [3, 2, 0, 1, 2, 3]] false) .ret))
theorem mcOkv164 : (match Tryz.f164.body with | some c => Q2 Tryz.prog 9 c | none => none) = some mcv164 := by kernel_rfl
theorem vcC_ins (p0 : Pl) (xs : List Pt) (hxn : xs.length ≤ 4611686018427387904) : FC Tryz.prog 164 [.rs 4 (xs.map cPt), (.fn (.func 165) [.rp (cPl p0)])] [] (.bool (xs.any (inB p0))) [] false := by
  refine Qs (nt := 9) Tryz.func164 rfl rfl mcOkv164 (nL rfl) ?_
  delta mcv164
  refine Qb (Qc (Qe rfl rfl (Qa fun _ => Qd (Qb (Qc (Qf 2 rfl (Qi [] rfl rfl (vcI_ins p0 xs hxn) (.cons (Qg rfl) (.cons (Qg rfl) (.nil))) rfl (XM rfl rfl rfl ?_))))))))
  refine Qe rfl rfl (Qa fun _ => Qd (Ql ?_))
  rw [← Jt]
  exact Qk rfl rfl rfl (.inr rfl)
def mcv212 : MC := (.seq (.reg [oN 2 (.mv (.c (.int .i64 0))) []] false) (.seq (.reg [oN 3 (.mv (.c (.int .i64 0))) []] false) (.seq (.seq (.reg [oM 6 0 [], oN 7 (.len (.t 6)) [0], oN 8 (.mv (.c (.int .i64 0))) []] false) (.block 0 (.loop (.seq (.reg [oN 9 (.bin .lss (.t 8) (.t 7)) []] false) (.seq (.cond (.t 9) .skip (.exit 0)) (.seq (.block 1 (.seq (.reg [oN 10 (.ixsl 1 (.t 6) (.t 8)) [], oD 11 1 10 [0], oM 5 11 [1, 0, 1]] false) (.block 2 (.loop (.seq (.seq (.reg [oM 12 5 [], oN 13 (.bin .neq (.t 12) (.c (.int .i64 0))) [0]] false) (.cond (.t 13) .skip (.exit 2))) (.block 3 (.reg [oM 14 5 [], oM 15 3 [], oM 16 5 [], oN 17 (.bin .rem (.t 15) (.t 16)) [1, 2], oM 3 14 [0, 0, 1], oM 5 17 [3, 4, 0, 1, 2, 3, 4]] true))))))) (.reg [oN 18 (.bin .add (.t 8) (.c (.int .i64 1))) [], oM 8 18 [0]] false))))))) (.seq (.reg [oM 19 3 [], oM 20 3 [], oN 21 (.un .neg (.t 20)) [1], oN 22 (.mx (.t 19) (.t 21)) [0, 2], oM 2 22 [3, 0, 1, 2, 3]] false) .ret))))
theorem mcOkv212 : (match Tryz.f212.body with | some c => Q2 Tryz.prog 23 c | none => none) = some mcv212 := by kernel_rfl
theorem vc212 (l : List Int) (hl : ∀ x ∈ l, -1000000000000000 ≤ x ∧ x ≤ 1000000000000000) (hn : l.length ≤ 1000) : FC Tryz.prog 212 [ints l] [] (iv (gL l : Int)) [] false := by
  refine Qs (nt := 23) Tryz.func212 rfl rfl mcOkv212 (nL rfl) ?_
  delta mcv212
  refine Qb (Qc (Qe rfl rfl (Qa fun _ => Qd (Qb (Qc (Qe rfl rfl (Qa fun _ => Qd ?_)))))))
  refine Qb (Qb (Qc (Qe rfl rfl (Qq rfl rfl (Qe rfl rfl (Qa fun _ => Qd (Qm ?_)))))))
  refine QC (α := Nat × Int) (fun s => l.length - s.1) (fun s => [(6, ints l), (7, iv (l.length : Int)), (8, iv (((s.1) : Nat) : Int)), (3, iv (s.2))]) (fun s => []) (fun s => s.1 ≤ l.length ∧ s.2.natAbs = gL (l.take s.1) ∧ (-1000000000000000 ≤ s.2 ∧ s.2 ≤ 1000000000000000)) (0, 0) (⟨by omega, rfl, by omega, by omega⟩)
    (Qj (.cs (.cs (.cs (.cs (.nil))))) (.nil) (fun i h => by cases h)) ?_
  rintro ⟨k, g⟩ ⟨hk, hg, hgb⟩
  dsimp only at hk hg hgb ⊢
  refine Qb (Qc (QJ rfl rfl rfl (Qa fun _ => Qd (Qb (Qh rfl (fun h9 => ?_) (fun h9 => ?_))))))
  · replace h9 := of_decide_eq_true h9
    refine Qn (Qd (Qb (Qm (Qb (Qc ?_)))))
    obtain ⟨x, hxk, hxm⟩ := Qy (L := l) (k := k) (by omega)
    have hxb := hl x hxm
    refine Qt (f := ci) (y := x) rfl rfl rfl (by omega) hxk (Qf 2 rfl (Qa fun _ => Qd (Qm ?_)))
    refine QC (α := Int × Int) (fun u => u.2.natAbs) (fun u => [(6, ints l), (7, iv (l.length : Int)), (8, iv (((k) : Nat) : Int)), (3, iv u.1), (5, iv u.2)]) (fun u => []) (fun u => Nat.gcd u.1.natAbs u.2.natAbs = Nat.gcd g.natAbs x.natAbs ∧ (-1000000000000000 ≤ u.1 ∧ u.1 ≤ 1000000000000000) ∧ (-1000000000000000 ≤ u.2 ∧ u.2 ≤ 1000000000000000)) (g, x) (⟨rfl, hgb, hxb⟩)
      (Qj (.cs (.cs (.cs (.cs (.cs (.nil)))))) (.nil) (fun i h => by cases h)) ?_
    rintro ⟨a, b⟩ ⟨hgc, hab, hbb⟩
    dsimp only at hgc hab hbb ⊢
    refine Qb (Qb (Qc (Qe rfl rfl (JD rfl rfl rfl (Qa fun _ => Qd (Qh rfl (fun h13 => ?_) (fun h13 => ?_)))))))
    · replace h13 := of_decide_eq_true h13
      refine Qn (Qd (Qm ?_))
      skip
      refine Q8 Xr (Qf 3 rfl (XY rfl rfl rfl (by omega) rfl (Qf 2 rfl (Qa ⟨by kernel_rfl, fun _ => ?_⟩))))
      refine QI (Qd ?_)
      have h1 := tmod_lt a b h13
      have h2 := gcd_st2 a b h13
      exact ⟨(b, a.tmod b), ⟨by show Nat.gcd b.natAbs (a.tmod b).natAbs = _; rw [h2, hgc], hbb, by show _ ≤ a.tmod b; omega, by show a.tmod b ≤ _; omega⟩, h1, Qj (.cs (.cs (.cs (.cs (.cs (.nil)))))) (.nil) (fun i h => by cases h)⟩
    · replace h13 := of_decide_eq_false h13
      refine Q3 (QB (QB (QA (QI (Qd (Qc (Qx rfl rfl rfl (by omega) (Qe rfl rfl (Qa fun _ => ?_)))))))))
      refine Qd (⟨(k + 1, a), ⟨by show k + 1 ≤ _; omega, ?_, hab⟩, by show _ - (k + 1) < _; omega, Qj (.cs (.cs (.cs (.cs (.nil))))) (.nil) (fun i h => by cases h)⟩)
      show a.natAbs = gL (l.take (k + 1))
      have hb0 : b = 0 := Decidable.byContradiction h13
      subst hb0
      rw [gL_succ hxk, ← hg, ← hgc]
      simp
  · replace h9 := of_decide_eq_false h9
    refine Q3 (QB (QB (QA (Qd (Qb ?_)))))
    have hke : l.take k = l := List.take_of_length_le (by omega)
    rw [hke] at hg
    refine Qc (Qf 2 rfl (rs_neg rfl rfl (by omega) (rs_mx (c := (gL l : Int)) rfl rfl rfl (by omega) (Qe rfl rfl (Qa fun _ => Qd (Ql ?_))))))
    exact Qk rfl rfl rfl (.inr rfl)
end Go.Proofs.YthfhaoogcpfboaaGreat

/-! Walks: VM. -/
namespace Go.Proofs.YthfhaoogcpfboaaGreat
open Go.RowKit
set_option maxRecDepth 100000
set_option linter.unusedVariables false
def mcv186 : MC := (.seq (.reg [oN 1 (.box 215 12 (.t 0)) [], oN 2 (.alloc 174 4 [(.int .i64 0), (.int .i64 0), (.int .i64 0), (.int .i64 0)]) [], oN 3 (.mv (.c (.bool false))) []] false) (.seq (.reg [oN 4 (.alloc 88 3 [(.int .i64 0), (.int .i64 0), (.int .i64 0)]) []] false) (.seq (.reg [oN 5 (.mv (.c (.int .i64 0))) []] false) (.seq (.seq (.reg [oN 10 (.ld true 12 (.t 1)) [], oN 11 (.mv (.c (.int .i64 0))) []] false) (.block 0 (.loop (.seq (.reg [oN 12 (.bin .lss (.t 11) (.c (.int .i64 3))) []] false) (.seq (.cond (.t 12) .skip (.exit 0)) (.seq (.block 1 (.seq (.reg [oM 13 11 [], oN 14 (.ixval 3 4 true (.t 10) (.t 11)) [], oN 7 (.alloc 90 4 [(.int .i64 0), (.int .i64 0), (.int .i64 0), (.int .i64 0)]) [], oM 6 13 [0, 0, 1, 2], ⟨none, (.st 4 (.t 7) (.t 14)), none, [2, 1, 3, 0, 1, 2, 3]⟩] false) (.seq (.reg [oM 15 6 [], oN 16 (.bin .add (.t 15) (.c (.int .i64 1))) [0], oN 17 (.bin .rem (.t 16) (.c (.int .i64 3))) [1], oN 18 (.ixarr 3 4 (.t 1) (.t 17)) [2], oA 19 0 18 [3], oN 20 (.ld true 3 (.t 19)) [4], oM 21 6 [], oN 22 (.bin .add (.t 21) (.c (.int .i64 2))) [6], oN 23 (.bin .rem (.t 22) (.c (.int .i64 3))) [7], oN 24 (.ixarr 3 4 (.t 1) (.t 23)) [8], oA 25 0 24 [9], oN 26 (.ld true 3 (.t 25)) [10], oN 27 (.call 209 [(.t 20), (.t 26)]) [5, 11], oN 8 (.alloc 88 3 [(.int .i64 0), (.int .i64 0), (.int .i64 0)]) [], ⟨none, (.st 3 (.t 8) (.t 27)), none, [13, 12, 12, 0, 1, 2, 3, 4, 5, 6, 7, 8, 9, 10, 11, 12, 13]⟩] true) (.seq (.reg [oA 28 0 7 [], oN 29 (.ld true 3 (.t 28)) [0], oN 30 (.ld true 3 (.t 8)) [], oN 31 (.call 190 [(.t 29), (.t 30)]) [1, 2], oM 5 31 [3, 3, 0, 1, 2, 3]] false) (.reg [oN 32 (.ld true 3 (.t 4)) [], oN 33 (.ld true 3 (.t 8)) [], oA 34 3 7 [], oD 35 1 34 [2], oN 36 (.call 211 [(.t 33), (.t 35)]) [1, 3], oN 37 (.call 210 [(.t 32), (.t 36)]) [0, 4, 4], ⟨none, (.st 3 (.t 4) (.t 37)), none, [5, 5, 0, 1, 2, 3, 4, 5]⟩] true))))) (.reg [oN 38 (.bin .add (.t 11) (.c (.int .i64 1))) [], oM 11 38 [0]] false))))))) (.seq (.seq (.reg [oM 39 5 [], oN 40 (.bin .eql (.t 39) (.c (.int .i64 0))) [0]] false) (.cond (.t 40) (.seq (.reg [oN 41 (.build [(.int .i64 0), (.int .i64 0), (.int .i64 0), (.int .i64 0)] []) [], ⟨none, (.st 4 (.t 2) (.t 41)), none, [0, 0]⟩, oN 3 (.mv (.c (.bool false))) [1, 0, 1]] false) .ret) .skip)) (.seq (.reg [oA 42 0 4 [], oD 43 1 42 [0], oA 44 1 4 [], oD 45 1 44 [2], oA 46 2 4 [], oD 47 1 46 [4], oM 48 5 [], oN 49 (.bslice 3 1 [(.int .i64 0)] 4 [(0, (.t 43)), (1, (.t 45)), (2, (.t 47)), (3, (.t 48))]) [1, 3, 5, 6], oN 50 (.call 212 [(.t 49)]) [7], oM 9 50 [8, 8, 0, 1, 2, 3, 4, 5, 6, 7, 8]] false) (.seq (.seq (.reg [oM 51 5 [], oN 52 (.bin .lss (.t 51) (.c (.int .i64 0))) [0]] false) (.cond (.t 52) (.reg [oM 53 9 [], oN 54 (.un .neg (.t 53)) [0], oM 9 54 [1, 0, 1]] false) .skip)) (.seq (.reg [oA 55 0 4 [], oD 56 1 55 [0], oM 57 9 [], oN 58 (.bin .quo (.t 56) (.t 57)) [1, 2], oA 59 1 4 [], oD 60 1 59 [4], oM 61 9 [], oN 62 (.bin .quo (.t 60) (.t 61)) [5, 6], oA 63 2 4 [], oD 64 1 63 [8], oM 65 9 [], oN 66 (.bin .quo (.t 64) (.t 65)) [9, 10], oM 67 5 [], oM 68 9 [], oN 69 (.bin .quo (.t 67) (.t 68)) [12, 13], oN 70 (.build [(.int .i64 0), (.int .i64 0), (.int .i64 0), (.int .i64 0)] [(0, (1, (.t 58))), (1, (1, (.t 62))), (2, (1, (.t 66))), (3, (1, (.t 69)))]) [3, 7, 11, 14], ⟨none, (.st 4 (.t 2) (.t 70)), none, [15, 0, 1, 2, 3, 4, 5, 6, 7, 8, 9, 10, 11, 12, 13, 14, 15]⟩, oN 3 (.mv (.c (.bool true))) [16, 0, 1, 2, 3, 4, 5, 6, 7, 8, 9, 10, 11, 12, 13, 14, 15, 16]] true) .ret))))))))
theorem mcOkv186 : (match Tryz.f186.body with | some c => Q2 Tryz.prog 71 c | none => none) = some mcv186 := by kernel_rfl
theorem vc186_n (p q r : Pl) (h0 : wd3 p q r = 0) : FC Tryz.prog 186 [.agg (c12 p q r)] [] (.tup [.agg [iv 0, iv 0, iv 0, iv 0], .bool false]) [] false := by
  refine Qs (nt := 71) Tryz.func186 rfl rfl mcOkv186 (nL rfl) ?_
  delta mcv186
  refine Qb (Qc (Qf 3 rfl (Qa fun _ => Qd (Qb (Qc (QF rfl rfl rfl (Qa fun _ => Qd ?_)))))))
  refine Qb (Qc (Qe rfl rfl (Qa fun _ => Qd (Qb (Qb (Qc (Qo rfl rfl rfl rfl (nL rfl) rfl (Qe rfl rfl ?_))))))))
  refine Qa fun _ => Qd (Qm ?_)
  refine QC (α := Nat) (fun k => 3 - k) (fun k => [(1, .ptr 1 0 0), (2, .ptr 2 0 0), (3, .bool false), (4, .ptr 4 0 0), (5, iv (wdS p q r (k))), (10, .agg (c12 p q r)), (11, iv (((k) : Nat) : Int))]) (fun k => [(1, .cells 215 12 [c12 p q r] true), (2, .cells 174 4 [[iv 0, iv 0, iv 0, iv 0]] true), (4, .cells 88 3 [cV (sumS p q r (k))] true)]) (fun k => k ≤ 3) 0 (by omega)
    (Qj (.cs (.cs (.cs (.cs (.cs (.cs (.cs (.nil)))))))) (.keep (rfl) rfl (.keep (rfl) rfl (.keep (rfl) rfl (.nil)))) (fun i h => by cases h)) ?_
  intro k hk
  refine Qb (Qc (QJ rfl rfl rfl (Qa fun _ => Qd (Qb (Qh rfl (fun h12 => ?_) (fun h12 => ?_))))))
  · replace h12 := of_decide_eq_true h12
    refine Qn (Qd (Qb (Qm (Qb (Qc ?_)))))
    obtain rfl | rfl | rfl : k = 0 ∨ k = 1 ∨ k = 2 := by omega
    · skip
      refine Qe rfl rfl (rs_ixvala rfl rfl rfl (by omega) (by omega) (nL rfl) rfl (Qf 2 rfl (Q0 rfl rfl rfl rfl rfl rfl rfl (nL rfl) rfl rfl (Qa fun _ => Qd (Qb (Q8 Xr (Qe rfl rfl (Qx rfl rfl rfl (by omega) ?_))))))))
      refine XY rfl rfl rfl (by decide) rfl (Q7 rfl rfl rfl (by decide) (by decide) (Q9 rfl rfl (Qo rfl rfl rfl rfl (nL rfl) rfl (Qe rfl rfl (Qx rfl rfl rfl (by omega) (XY rfl rfl rfl (by decide) rfl (Q7 rfl rfl rfl (by decide) (by decide) (Q9 rfl rfl (Qo rfl rfl rfl rfl (nL rfl) rfl ?_)))))))))
      refine Qi [] rfl rfl (fc31 q.n r.n) (.cons (Qg rfl) (.cons (Qg rfl) (.nil))) rfl (QF rfl rfl rfl (Q0 rfl rfl rfl rfl rfl rfl rfl (nL rfl) rfl rfl (Qa ⟨by kernel_rfl, fun _ => ?_⟩)))
      refine Qd (Qb (Qc (Q9 rfl rfl (Qo rfl rfl rfl rfl (nL rfl) rfl (Qo rfl rfl rfl rfl (nL rfl) rfl (Qi [] rfl rfl (fc30 p.n (Xx q.n r.n)) (.cons (Qg rfl) (.cons (Qg rfl) (.nil))) rfl (Qe rfl rfl (Qa fun _ => Qd ?_))))))))
      refine Q8 Xr (Qo rfl rfl rfl rfl (nL rfl) rfl (Qo rfl rfl rfl rfl (nL rfl) rfl (Qf 2 rfl (Qi [] rfl rfl (vc211 (Xx q.n r.n) p.b) (.cons (Qg rfl) (.cons (Qg rfl) (.nil))) rfl (Qi [] rfl rfl (fc28 (sumS p q r 0) (JC (Xx q.n r.n) p.b)) (.cons (Qg rfl) (.cons (Qg rfl) (.nil))) rfl (Q0 rfl rfl rfl rfl rfl rfl rfl (nL rfl) rfl rfl (Qa ⟨by kernel_rfl, fun _ => ?_⟩)))))))
      refine QI (Qd (Qc (Qx rfl rfl rfl (by omega) (Qe rfl rfl (Qa fun _ => Qd ?_)))))
      exact ⟨0 + 1, by omega, by omega, Qj (.cs (.cs (.cs (.cs (.cs (.cs (.cs (.nil)))))))) (.keep (rfl) rfl (.keep (rfl) rfl (.keep (rfl) rfl (.nil)))) (fun i h => by cases h)⟩
    · skip
      refine Qe rfl rfl (rs_ixvala rfl rfl rfl (by omega) (by omega) (nL rfl) rfl (Qf 2 rfl (Q0 rfl rfl rfl rfl rfl rfl rfl (nL rfl) rfl rfl (Qa fun _ => Qd (Qb (Q8 Xr (Qe rfl rfl (Qx rfl rfl rfl (by omega) ?_))))))))
      refine XY rfl rfl rfl (by decide) rfl (Q7 rfl rfl rfl (by decide) (by decide) (Q9 rfl rfl (Qo rfl rfl rfl rfl (nL rfl) rfl (Qe rfl rfl (Qx rfl rfl rfl (by omega) (XY rfl rfl rfl (by decide) rfl (Q7 rfl rfl rfl (by decide) (by decide) (Q9 rfl rfl (Qo rfl rfl rfl rfl (nL rfl) rfl ?_)))))))))
      refine Qi [] rfl rfl (fc31 r.n p.n) (.cons (Qg rfl) (.cons (Qg rfl) (.nil))) rfl (QF rfl rfl rfl (Q0 rfl rfl rfl rfl rfl rfl rfl (nL rfl) rfl rfl (Qa ⟨by kernel_rfl, fun _ => ?_⟩)))
      refine Qd (Qb (Qc (Q9 rfl rfl (Qo rfl rfl rfl rfl (nL rfl) rfl (Qo rfl rfl rfl rfl (nL rfl) rfl (Qi [] rfl rfl (fc30 q.n (Xx r.n p.n)) (.cons (Qg rfl) (.cons (Qg rfl) (.nil))) rfl (Qe rfl rfl (Qa fun _ => Qd ?_))))))))
      refine Q8 Xr (Qo rfl rfl rfl rfl (nL rfl) rfl (Qo rfl rfl rfl rfl (nL rfl) rfl (Qf 2 rfl (Qi [] rfl rfl (vc211 (Xx r.n p.n) q.b) (.cons (Qg rfl) (.cons (Qg rfl) (.nil))) rfl (Qi [] rfl rfl (fc28 (sumS p q r 1) (JC (Xx r.n p.n) q.b)) (.cons (Qg rfl) (.cons (Qg rfl) (.nil))) rfl (Q0 rfl rfl rfl rfl rfl rfl rfl (nL rfl) rfl rfl (Qa ⟨by kernel_rfl, fun _ => ?_⟩)))))))
      refine QI (Qd (Qc (Qx rfl rfl rfl (by omega) (Qe rfl rfl (Qa fun _ => Qd ?_)))))
      exact ⟨1 + 1, by omega, by omega, Qj (.cs (.cs (.cs (.cs (.cs (.cs (.cs (.nil)))))))) (.keep (rfl) rfl (.keep (rfl) rfl (.keep (rfl) rfl (.nil)))) (fun i h => by cases h)⟩
    · skip
      refine Qe rfl rfl (rs_ixvala rfl rfl rfl (by omega) (by omega) (nL rfl) rfl (Qf 2 rfl (Q0 rfl rfl rfl rfl rfl rfl rfl (nL rfl) rfl rfl (Qa fun _ => Qd (Qb (Q8 Xr (Qe rfl rfl (Qx rfl rfl rfl (by omega) ?_))))))))
      refine XY rfl rfl rfl (by decide) rfl (Q7 rfl rfl rfl (by decide) (by decide) (Q9 rfl rfl (Qo rfl rfl rfl rfl (nL rfl) rfl (Qe rfl rfl (Qx rfl rfl rfl (by omega) (XY rfl rfl rfl (by decide) rfl (Q7 rfl rfl rfl (by decide) (by decide) (Q9 rfl rfl (Qo rfl rfl rfl rfl (nL rfl) rfl ?_)))))))))
      refine Qi [] rfl rfl (fc31 p.n q.n) (.cons (Qg rfl) (.cons (Qg rfl) (.nil))) rfl (QF rfl rfl rfl (Q0 rfl rfl rfl rfl rfl rfl rfl (nL rfl) rfl rfl (Qa ⟨by kernel_rfl, fun _ => ?_⟩)))
      refine Qd (Qb (Qc (Q9 rfl rfl (Qo rfl rfl rfl rfl (nL rfl) rfl (Qo rfl rfl rfl rfl (nL rfl) rfl (Qi [] rfl rfl (fc30 r.n (Xx p.n q.n)) (.cons (Qg rfl) (.cons (Qg rfl) (.nil))) rfl (Qe rfl rfl (Qa fun _ => Qd ?_))))))))
      refine Q8 Xr (Qo rfl rfl rfl rfl (nL rfl) rfl (Qo rfl rfl rfl rfl (nL rfl) rfl (Qf 2 rfl (Qi [] rfl rfl (vc211 (Xx p.n q.n) r.b) (.cons (Qg rfl) (.cons (Qg rfl) (.nil))) rfl (Qi [] rfl rfl (fc28 (sumS p q r 2) (JC (Xx p.n q.n) r.b)) (.cons (Qg rfl) (.cons (Qg rfl) (.nil))) rfl (Q0 rfl rfl rfl rfl rfl rfl rfl (nL rfl) rfl rfl (Qa ⟨by kernel_rfl, fun _ => ?_⟩)))))))
      refine QI (Qd (Qc (Qx rfl rfl rfl (by omega) (Qe rfl rfl (Qa fun _ => Qd ?_)))))
      exact ⟨2 + 1, by omega, by omega, Qj (.cs (.cs (.cs (.cs (.cs (.cs (.cs (.nil)))))))) (.keep (rfl) rfl (.keep (rfl) rfl (.keep (rfl) rfl (.nil)))) (fun i h => by cases h)⟩
  · replace h12 := of_decide_eq_false h12
    refine Q3 (QB (QB (QA (Qd (Qb (Qb ?_))))))
    obtain rfl : k = 3 := by omega
    refine Qc (Qe rfl rfl (QT rfl rfl rfl rfl h0 (Qa fun _ => Qd (Qh rfl (fun _ => ?_) (fun h => by cases h)))))
    refine Qb (Qc (QU rfl rfl (Q0 rfl rfl rfl rfl rfl rfl rfl (nL rfl) rfl rfl (Qe rfl rfl (Qa fun _ => Qd (Ql (Q1 ?_)))))))
    exact Q5 rfl (XJ (.cons (Q6 rfl (.inr rfl)) (.cons (Q6 rfl (.inr rfl)) .nil))) .nil
theorem vc186_s (p q r : Pl) (h0 : wd3 p q r ≠ 0) (hok : okT p q r = true) : FC Tryz.prog 186 [.agg (c12 p q r)] [] (.tup [.agg (cPt (mtP p q r)), .bool true]) [] false := by
  refine Qs (nt := 71) Tryz.func186 rfl rfl mcOkv186 (nL rfl) ?_
  delta mcv186
  refine Qb (Qc (Qf 3 rfl (Qa fun _ => Qd (Qb (Qc (QF rfl rfl rfl (Qa fun _ => Qd ?_)))))))
  refine Qb (Qc (Qe rfl rfl (Qa fun _ => Qd (Qb (Qb (Qc (Qo rfl rfl rfl rfl (nL rfl) rfl (Qe rfl rfl ?_))))))))
  refine Qa fun _ => Qd (Qm ?_)
  refine QC (α := Nat) (fun k => 3 - k) (fun k => [(1, .ptr 1 0 0), (2, .ptr 2 0 0), (3, .bool false), (4, .ptr 4 0 0), (5, iv (wdS p q r (k))), (10, .agg (c12 p q r)), (11, iv (((k) : Nat) : Int))]) (fun k => [(1, .cells 215 12 [c12 p q r] true), (2, .cells 174 4 [[iv 0, iv 0, iv 0, iv 0]] true), (4, .cells 88 3 [cV (sumS p q r (k))] true)]) (fun k => k ≤ 3) 0 (by omega)
    (Qj (.cs (.cs (.cs (.cs (.cs (.cs (.cs (.nil)))))))) (.keep (rfl) rfl (.keep (rfl) rfl (.keep (rfl) rfl (.nil)))) (fun i h => by cases h)) ?_
  intro k hk
  refine Qb (Qc (QJ rfl rfl rfl (Qa fun _ => Qd (Qb (Qh rfl (fun h12 => ?_) (fun h12 => ?_))))))
  · replace h12 := of_decide_eq_true h12
    refine Qn (Qd (Qb (Qm (Qb (Qc ?_)))))
    obtain rfl | rfl | rfl : k = 0 ∨ k = 1 ∨ k = 2 := by omega
    · skip
      refine Qe rfl rfl (rs_ixvala rfl rfl rfl (by omega) (by omega) (nL rfl) rfl (Qf 2 rfl (Q0 rfl rfl rfl rfl rfl rfl rfl (nL rfl) rfl rfl (Qa fun _ => Qd (Qb (Q8 Xr (Qe rfl rfl (Qx rfl rfl rfl (by omega) ?_))))))))
      refine XY rfl rfl rfl (by decide) rfl (Q7 rfl rfl rfl (by decide) (by decide) (Q9 rfl rfl (Qo rfl rfl rfl rfl (nL rfl) rfl (Qe rfl rfl (Qx rfl rfl rfl (by omega) (XY rfl rfl rfl (by decide) rfl (Q7 rfl rfl rfl (by decide) (by decide) (Q9 rfl rfl (Qo rfl rfl rfl rfl (nL rfl) rfl ?_)))))))))
      refine Qi [] rfl rfl (fc31 q.n r.n) (.cons (Qg rfl) (.cons (Qg rfl) (.nil))) rfl (QF rfl rfl rfl (Q0 rfl rfl rfl rfl rfl rfl rfl (nL rfl) rfl rfl (Qa ⟨by kernel_rfl, fun _ => ?_⟩)))
      refine Qd (Qb (Qc (Q9 rfl rfl (Qo rfl rfl rfl rfl (nL rfl) rfl (Qo rfl rfl rfl rfl (nL rfl) rfl (Qi [] rfl rfl (fc30 p.n (Xx q.n r.n)) (.cons (Qg rfl) (.cons (Qg rfl) (.nil))) rfl (Qe rfl rfl (Qa fun _ => Qd ?_))))))))
      refine Q8 Xr (Qo rfl rfl rfl rfl (nL rfl) rfl (Qo rfl rfl rfl rfl (nL rfl) rfl (Qf 2 rfl (Qi [] rfl rfl (vc211 (Xx q.n r.n) p.b) (.cons (Qg rfl) (.cons (Qg rfl) (.nil))) rfl (Qi [] rfl rfl (fc28 (sumS p q r 0) (JC (Xx q.n r.n) p.b)) (.cons (Qg rfl) (.cons (Qg rfl) (.nil))) rfl (Q0 rfl rfl rfl rfl rfl rfl rfl (nL rfl) rfl rfl (Qa ⟨by kernel_rfl, fun _ => ?_⟩)))))))
      refine QI (Qd (Qc (Qx rfl rfl rfl (by omega) (Qe rfl rfl (Qa fun _ => Qd ?_)))))
      exact ⟨0 + 1, by omega, by omega, Qj (.cs (.cs (.cs (.cs (.cs (.cs (.cs (.nil)))))))) (.keep (rfl) rfl (.keep (rfl) rfl (.keep (rfl) rfl (.nil)))) (fun i h => by cases h)⟩
    · skip
      refine Qe rfl rfl (rs_ixvala rfl rfl rfl (by omega) (by omega) (nL rfl) rfl (Qf 2 rfl (Q0 rfl rfl rfl rfl rfl rfl rfl (nL rfl) rfl rfl (Qa fun _ => Qd (Qb (Q8 Xr (Qe rfl rfl (Qx rfl rfl rfl (by omega) ?_))))))))
      refine XY rfl rfl rfl (by decide) rfl (Q7 rfl rfl rfl (by decide) (by decide) (Q9 rfl rfl (Qo rfl rfl rfl rfl (nL rfl) rfl (Qe rfl rfl (Qx rfl rfl rfl (by omega) (XY rfl rfl rfl (by decide) rfl (Q7 rfl rfl rfl (by decide) (by decide) (Q9 rfl rfl (Qo rfl rfl rfl rfl (nL rfl) rfl ?_)))))))))
      refine Qi [] rfl rfl (fc31 r.n p.n) (.cons (Qg rfl) (.cons (Qg rfl) (.nil))) rfl (QF rfl rfl rfl (Q0 rfl rfl rfl rfl rfl rfl rfl (nL rfl) rfl rfl (Qa ⟨by kernel_rfl, fun _ => ?_⟩)))
      refine Qd (Qb (Qc (Q9 rfl rfl (Qo rfl rfl rfl rfl (nL rfl) rfl (Qo rfl rfl rfl rfl (nL rfl) rfl (Qi [] rfl rfl (fc30 q.n (Xx r.n p.n)) (.cons (Qg rfl) (.cons (Qg rfl) (.nil))) rfl (Qe rfl rfl (Qa fun _ => Qd ?_))))))))
      refine Q8 Xr (Qo rfl rfl rfl rfl (nL rfl) rfl (Qo rfl rfl rfl rfl (nL rfl) rfl (Qf 2 rfl (Qi [] rfl rfl (vc211 (Xx r.n p.n) q.b) (.cons (Qg rfl) (.cons (Qg rfl) (.nil))) rfl (Qi [] rfl rfl (fc28 (sumS p q r 1) (JC (Xx r.n p.n) q.b)) (.cons (Qg rfl) (.cons (Qg rfl) (.nil))) rfl (Q0 rfl rfl rfl rfl rfl rfl rfl (nL rfl) rfl rfl (Qa ⟨by kernel_rfl, fun _ => ?_⟩)))))))
      refine QI (Qd (Qc (Qx rfl rfl rfl (by omega) (Qe rfl rfl (Qa fun _ => Qd ?_)))))
      exact ⟨1 + 1, by omega, by omega, Qj (.cs (.cs (.cs (.cs (.cs (.cs (.cs (.nil)))))))) (.keep (rfl) rfl (.keep (rfl) rfl (.keep (rfl) rfl (.nil)))) (fun i h => by cases h)⟩
    · skip
      refine Qe rfl rfl (rs_ixvala rfl rfl rfl (by omega) (by omega) (nL rfl) rfl (Qf 2 rfl (Q0 rfl rfl rfl rfl rfl rfl rfl (nL rfl) rfl rfl (Qa fun _ => Qd (Qb (Q8 Xr (Qe rfl rfl (Qx rfl rfl rfl (by omega) ?_))))))))
      refine XY rfl rfl rfl (by decide) rfl (Q7 rfl rfl rfl (by decide) (by decide) (Q9 rfl rfl (Qo rfl rfl rfl rfl (nL rfl) rfl (Qe rfl rfl (Qx rfl rfl rfl (by omega) (XY rfl rfl rfl (by decide) rfl (Q7 rfl rfl rfl (by decide) (by decide) (Q9 rfl rfl (Qo rfl rfl rfl rfl (nL rfl) rfl ?_)))))))))
      refine Qi [] rfl rfl (fc31 p.n q.n) (.cons (Qg rfl) (.cons (Qg rfl) (.nil))) rfl (QF rfl rfl rfl (Q0 rfl rfl rfl rfl rfl rfl rfl (nL rfl) rfl rfl (Qa ⟨by kernel_rfl, fun _ => ?_⟩)))
      refine Qd (Qb (Qc (Q9 rfl rfl (Qo rfl rfl rfl rfl (nL rfl) rfl (Qo rfl rfl rfl rfl (nL rfl) rfl (Qi [] rfl rfl (fc30 r.n (Xx p.n q.n)) (.cons (Qg rfl) (.cons (Qg rfl) (.nil))) rfl (Qe rfl rfl (Qa fun _ => Qd ?_))))))))
      refine Q8 Xr (Qo rfl rfl rfl rfl (nL rfl) rfl (Qo rfl rfl rfl rfl (nL rfl) rfl (Qf 2 rfl (Qi [] rfl rfl (vc211 (Xx p.n q.n) r.b) (.cons (Qg rfl) (.cons (Qg rfl) (.nil))) rfl (Qi [] rfl rfl (fc28 (sumS p q r 2) (JC (Xx p.n q.n) r.b)) (.cons (Qg rfl) (.cons (Qg rfl) (.nil))) rfl (Q0 rfl rfl rfl rfl rfl rfl rfl (nL rfl) rfl rfl (Qa ⟨by kernel_rfl, fun _ => ?_⟩)))))))
      refine QI (Qd (Qc (Qx rfl rfl rfl (by omega) (Qe rfl rfl (Qa fun _ => Qd ?_)))))
      exact ⟨2 + 1, by omega, by omega, Qj (.cs (.cs (.cs (.cs (.cs (.cs (.cs (.nil)))))))) (.keep (rfl) rfl (.keep (rfl) rfl (.keep (rfl) rfl (.nil)))) (fun i h => by cases h)⟩
  · replace h12 := of_decide_eq_false h12
    refine Q3 (QB (QB (QA (Qd (Qb (Qb ?_))))))
    obtain rfl : k = 3 := by omega
    refine Qc (Qe rfl rfl (Qz rfl rfl rfl rfl h0 (Qa fun _ => Qd (Qh rfl (fun h => by cases h) (fun _ => ?_)))))
    refine Qn (Qd (Qb ?_))
    have hgp : 0 < gL [(Jm p q r).x, (Jm p q r).y, (Jm p q r).z, wd3 p q r] := gL_pos (x := wd3 p q r) (by simp) h0
    have hgl : gL [(Jm p q r).x, (Jm p q r).y, (Jm p q r).z, wd3 p q r] ≤ 1000000000000000 := gL_le (x := wd3 p q r) (by simp) h0 (by have := okT_all hok (wd3 p q r) (by simp); omega)
    refine Qc (Qf 7 rfl (Qv (l := (([(Jm p q r).x, (Jm p q r).y, (Jm p q r).z, wd3 p q r] : List Int)).flatMap ci) (els := (([(Jm p q r).x, (Jm p q r).y, (Jm p q r).z, wd3 p q r] : List Int)).map ci) (fl := true) rfl (by kernel_rfl) rfl rfl (by kernel_rfl) (by kernel_rfl) (Qi [49] rfl rfl (vc212 [(Jm p q r).x, (Jm p q r).y, (Jm p q r).z, wd3 p q r] (okT_all hok) (by simp)) (.cons (Xk (f := ci) (xs := [(Jm p q r).x, (Jm p q r).y, (Jm p q r).z, wd3 p q r]) (by simp) rfl rfl) (.nil)) rfl (Qe rfl rfl (Qa fun _ => Qd (Qb (Qb (Qc ?_))))))))
    refine Qf 2 rfl (Qa fun _ => Qd (Qh rfl (fun h52 => ?_) (fun h52 => ?_)))
    · replace h52 := of_decide_eq_true h52
      refine Qc (Qe rfl rfl (rs_neg rfl rfl (by omega) (Qe rfl rfl (Qa fun _ => Qd (Qb ?_)))))
      have hg3 : -(gL [(Jm p q r).x, (Jm p q r).y, (Jm p q r).z, wd3 p q r] : Int) = g3 p q r := (if_pos h52).symm
      have hg0 : g3 p q r ≠ 0 := by rw [← hg3]; omega
      rw [hg3]
      refine Q8 Xr (Qf 3 rfl (Xy rfl rfl rfl hg0 rfl (Qf 3 rfl (Xy rfl rfl rfl hg0 rfl (Qf 3 rfl (Xy rfl rfl rfl hg0 rfl (Qf 2 rfl (Xy rfl rfl rfl hg0 rfl (QU rfl rfl ?_)))))))))
      refine Q0 rfl rfl rfl rfl rfl rfl rfl (nL rfl) rfl rfl (Qe rfl rfl (Qa ⟨by kernel_rfl, fun _ => ?_⟩))
      refine Qd (Ql ?_)
      exact Q5 rfl (XJ (.cons (Q6 rfl (.inr rfl)) (.cons (Q6 rfl (.inr rfl)) .nil))) .nil
    · replace h52 := of_decide_eq_false h52
      refine Qn (Qd (Qb ?_))
      have hg3 : (gL [(Jm p q r).x, (Jm p q r).y, (Jm p q r).z, wd3 p q r] : Int) = g3 p q r := (if_neg h52).symm
      have hg0 : g3 p q r ≠ 0 := by rw [← hg3]; omega
      rw [hg3]
      refine Q8 Xr (Qf 3 rfl (Xy rfl rfl rfl hg0 rfl (Qf 3 rfl (Xy rfl rfl rfl hg0 rfl (Qf 3 rfl (Xy rfl rfl rfl hg0 rfl (Qf 2 rfl (Xy rfl rfl rfl hg0 rfl (QU rfl rfl ?_)))))))))
      refine Q0 rfl rfl rfl rfl rfl rfl rfl (nL rfl) rfl rfl (Qe rfl rfl (Qa ⟨by kernel_rfl, fun _ => ?_⟩))
      refine Qd (Ql ?_)
      exact Q5 rfl (XJ (.cons (Q6 rfl (.inr rfl)) (.cons (Q6 rfl (.inr rfl)) .nil))) .nil
def mcv185 : MC := (.seq (.reg [oN 1 (.box 167 1 (.t 0)) [], oN 2 (.mv (.c .nilf)) []] false) (.seq (.reg [oN 3 (.mkfn (.func 208) [(.t 1)]) [], oM 2 3 [0, 0]] false) .ret))
theorem mcOkv185 : (match Tryz.f185.body with | some c => Q2 Tryz.prog 4 c | none => none) = some mcv185 := by kernel_rfl
theorem vc185 (r : List Pl) : FC Tryz.prog 185 [.rs 4 (r.map cPl)] [] (.fn (.func 208) [.rp [.rs 4 (r.map cPl)]]) [] true := by
  refine Qs (nt := 4) Tryz.func185 rfl rfl mcOkv185 (nL rfl) ?_
  delta mcv185
  refine Qb (Qc (Qf 2 rfl (Qa fun _ => Qd (Qb (Qc (Qf 2 rfl (Qa fun _ => Qd ?_)))))))
  refine Ql ?_
  exact Q5 rfl (rc_fnr (.cons (XS rfl rfl (.inl rfl)) .nil)) .nil
end Go.Proofs.YthfhaoogcpfboaaGreat

/-! Walks: VN. -/
namespace Go.Proofs.YthfhaoogcpfboaaGreat
open Go.RowKit
set_option maxRecDepth 100000
set_option linter.unusedVariables false
abbrev ptK (x : Pt) : List Int := [x.x, x.y, x.z, x.w]
theorem ptK_len (l : List Pt) : ∀ q ∈ l.map ptK, q.length = 4 := fun q hq => by
  obtain ⟨x, _, rfl⟩ := List.mem_map.1 hq; rfl
/-- The vertices of a region, triple by triple. -/
def accS (r : List Pl) (l : List Pt) (p q s : Pl) : List Pt := if wd3 p q s = 0 then l else if ptK (mtP p q s) ∈ l.map ptK then l else if withS r (mtP p q s) = true then l ++ [mtP p q s] else l
def innS (r : List Pl) (p q : Pl) : List Pt → List Pl → List Pt
  | l, [] => l
  | l, s :: t => innS r p q (accS r l p q s) t
def midS (r : List Pl) (p : Pl) : List Pt → List Pl → List Pt
  | l, [] => l
  | l, q :: t => midS r p (innS r p q l t) t
def topS (r : List Pl) : List Pt → List Pl → List Pt
  | l, [] => l
  | l, p :: t => topS r (midS r p l t) t
def cornS (r : List Pl) : List Pt := topS r [] r
def okMid (p : Pl) : List Pl → Bool
  | [] => true
  | q :: t => t.all (okT p q) && okMid p t
def okTop : List Pl → Bool
  | [] => true
  | p :: t => okMid p t && okTop t
theorem okTop_at : ∀ {r : List Pl} {i : Nat} {p : Pl}, okTop r = true → r[i]? = some p → okMid p (r.drop (i + 1)) = true
  | [], i, p, _, h => by simp at h
  | a :: r, 0, p, h, hp => by
    simp at hp; subst hp
    simp only [okTop, Bool.and_eq_true] at h
    exact h.1
  | a :: r, i + 1, p, h, hp => by
    simp only [okTop, Bool.and_eq_true] at h
    exact okTop_at (r := r) (i := i) h.2 (by simpa using hp)
theorem okMid_at : ∀ {p : Pl} {t : List Pl} {j : Nat} {q : Pl}, okMid p t = true → t[j]? = some q → (t.drop (j + 1)).all (okT p q) = true
  | p, [], j, q, _, h => by simp at h
  | p, a :: t, 0, q, h, hq => by
    simp at hq; subst hq
    simp only [okMid, Bool.and_eq_true] at h
    exact h.1
  | p, a :: t, j + 1, q, h, hq => by
    simp only [okMid, Bool.and_eq_true] at h
    exact okMid_at (t := t) (j := j) h.2 (by simpa using hq)
theorem drop_at {α : Type} {l : List α} {k : Nat} {x : α} (h : l[k]? = some x) : l.drop k = x :: l.drop (k + 1) := by
  obtain ⟨hk, e⟩ := List.getElem?_eq_some_iff.1 h
  rw [List.drop_eq_getElem_cons hk, e]
theorem topS_at {r : List Pl} {l : List Pt} {k : Nat} {p : Pl} (h : r[k]? = some p) : topS r l (r.drop k) = topS r (midS r p l (r.drop (k + 1))) (r.drop (k + 1)) := by rw [drop_at h]; rfl
theorem midS_at {r t : List Pl} {p : Pl} {l : List Pt} {k : Nat} {q : Pl} (h : t[k]? = some q) : midS r p l (t.drop k) = midS r p (innS r p q l (t.drop (k + 1))) (t.drop (k + 1)) := by rw [drop_at h]; rfl
theorem innS_at {r t : List Pl} {p q : Pl} {l : List Pt} {k : Nat} {s : Pl} (h : t[k]? = some s) : innS r p q l (t.drop k) = innS r p q (accS r l p q s) (t.drop (k + 1)) := by rw [drop_at h]; rfl
theorem accS_len (r : List Pl) (l : List Pt) (p q s : Pl) : (accS r l p q s).length ≤ l.length + 1 := by
  unfold accS
  split
  · omega
  · split
    · omega
    · split
      · rw [len_snoc]; omega
      · omega
theorem slc_drop (r : List Pl) (m : Nat) {l : Int} (h : l = (m : Int)) : (((r.map cPl).drop l.toNat).take ((((r.map cPl).length : Nat) : Int).toNat - l.toNat)) = (r.drop m).map cPl := by
  subst h
  rw [← List.map_drop, List.take_of_length_le (by simp)]; rfl
theorem map_snocK (l : List Pt) (x : Pt) : (l ++ [x]).map ptK = l.map ptK ++ [ptK x] := by simp
theorem acc_1 {r : List Pl} {l : List Pt} {p q s : Pl} (h : wd3 p q s = 0) : accS r l p q s = l := if_pos h
theorem acc_2 {r : List Pl} {l : List Pt} {p q s : Pl} (h : wd3 p q s ≠ 0) (h2 : decide (ptK (mtP p q s) ∈ l.map ptK) = true) : accS r l p q s = l := by unfold accS; rw [if_neg h, if_pos (of_decide_eq_true h2)]
theorem acc_3 {r : List Pl} {l : List Pt} {p q s : Pl} (h : wd3 p q s ≠ 0) (h2 : decide (ptK (mtP p q s) ∈ l.map ptK) = false) (h3 : withS r (mtP p q s) = true) : accS r l p q s = l ++ [mtP p q s] := by unfold accS; rw [if_neg h, if_neg (of_decide_eq_false h2), if_pos h3]
theorem acc_4 {r : List Pl} {l : List Pt} {p q s : Pl} (h : wd3 p q s ≠ 0) (h2 : decide (ptK (mtP p q s) ∈ l.map ptK) = false) (h3 : withS r (mtP p q s) = false) : accS r l p q s = l := by unfold accS; rw [if_neg h, if_neg (of_decide_eq_false h2), if_neg (by rw [h3]; decide)]
def as161 : MC := (.reg [oN 5 (.alloc 215 12 [(.int .i64 0), (.int .i64 0), (.int .i64 0), (.int .i64 0), (.int .i64 0), (.int .i64 0), (.int .i64 0), (.int .i64 0), (.int .i64 0), (.int .i64 0), (.int .i64 0), (.int .i64 0)]) [], ⟨none, (.st 12 (.t 5) (.t 11)), none, [0, 0]⟩] false)
def bd161 : MC := (.block 1 (.seq (.reg [oN 13 (.ld true 12 (.t 5)) [], oN 14 (.call 186 [(.t 13)]) [0], oM 12 14 [1], oN 15 (.ext (.t 12) 0) [2], oN 16 (.ext (.t 12) 1) [2], oN 6 (.alloc 174 4 [(.int .i64 0), (.int .i64 0), (.int .i64 0), (.int .i64 0)]) [], ⟨none, (.st 4 (.t 6) (.t 15)), none, [5, 3, 1, 0, 1, 2, 3, 5]⟩, oM 7 16 [4, 6, 0, 1, 2, 3, 4, 5, 6]] false) (.seq (.reg [oM 17 7 [], oM 18 17 [0], pD 19 1 4 18 true [1], oG 20 (.ld true 4 (.t 6)) 18 true [1], oG 21 (.mhas 4 (.t 19) (.t 20)) 18 true [2, 3, 1], oG 22 (.un .not (.t 21)) 18 true [4, 1], oN 23 (.pick (.t 18) (.t 22) (.c (.bool false))) [1, 5], oM 24 23 [6, 1], pD 25 1 1 24 true [7], oG 26 (.ld true 4 (.t 6)) 24 true [7], oG 27 (.call 187 [(.t 25), (.t 26)]) 24 true [8, 9, 7, 7], oN 28 (.pick (.t 24) (.t 27) (.c (.bool false))) [7, 10]] false) (.cond (.t 28) (.seq (.reg [oD 29 1 4 [], oN 30 (.ld true 4 (.t 6)) [], ⟨none, (.mapadd 4 (.t 29) (.t 30) (.c (.bool true))), none, [0, 1, 0, 1]⟩] false) (.reg [oD 31 1 3 [], oN 32 (.ld true 4 (.t 6)) [], oN 33 (.bslice 174 4 [(.int .i64 0), (.int .i64 0), (.int .i64 0), (.int .i64 0)] 1 [(0, (.t 32))]) [1], oN 34 (.app 174 4 32 [(.int .i64 0), (.int .i64 0), (.int .i64 0), (.int .i64 0)] (.t 31) (.t 33)) [0, 2], ⟨none, (.st 1 (.t 3) (.t 34)), none, [3, 3, 0, 1, 2, 3]⟩] false)) .skip))))
theorem as161w (r : List Pl) (hr : r.length ≤ 110) (p q s : Pl) (hok : okT p q s = true) (l : List Pt) (hl : l.length ≤ 2000000) (o : Loop) (lb : Nat) : AW Tryz.prog 36 [900, 1003, 903, 1004, 1008] (some lb) as161 (fun e F' H' => e = .normal ∧ Weak 36 [900, 1003, 903, 1004, 1008] F' H' [(5, .ptr 5 0 0), (1, .rp [.rs 4 (r.map cPl)]), (3, .ptr 1003 0 0), (4, .ptr 1004 0 0)] [(900, .lp o [(10, .fn (.func 208) [.rp [.rs 4 (r.map cPl)]]), (1, .rp [.rs 4 (r.map cPl)]), (3, .ptr 1003 0 0), (4, .ptr 1004 0 0)]), (1003, .cells 170 1 [[.sl 903 0 (l).length]] false), (903, .cells 174 4 ((l).map cPt) true), (1004, .cells 211 1 [[.mp 1008]] false), (1008, .mset ((l).map ptK)), (5, .cells 215 12 [c12 p q s] true)]) [(11, .agg (c12 p q s)), (10, .fn (.func 208) [.rp [.rs 4 (r.map cPl)]]), (1, .rp [.rs 4 (r.map cPl)]), (3, .ptr 1003 0 0), (4, .ptr 1004 0 0)] [(900, .lp o [(10, .fn (.func 208) [.rp [.rs 4 (r.map cPl)]]), (1, .rp [.rs 4 (r.map cPl)]), (3, .ptr 1003 0 0), (4, .ptr 1004 0 0)]), (1003, .cells 170 1 [[.sl 903 0 (l).length]] false), (903, .cells 174 4 ((l).map cPt) true), (1004, .cells 211 1 [[.mp 1008]] false), (1008, .mset ((l).map ptK))] := by
  delta as161
  refine Qc (QF rfl rfl rfl (Q0 rfl rfl rfl rfl rfl rfl rfl (nL rfl) rfl rfl (Qa fun _ => ?_)))
  exact ⟨rfl, Qj (.cs (.cs (.cs (.cs (.nil))))) (.keep (rfl) rfl (.keep (rfl) rfl (.keep (rfl) rfl (.keep (rfl) rfl (.keep (rfl) rfl (.keep (rfl) rfl (.nil))))))) (fun i hi => by simp [Qp] at hi ⊢; omega)⟩
theorem bd161w (r : List Pl) (hr : r.length ≤ 110) (p q s : Pl) (hok : okT p q s = true) (l : List Pt) (hl : l.length ≤ 2000000) (o : Loop) (lb : Nat) : AW Tryz.prog 36 [900, 1003, 903, 1004, 1008] (some lb) bd161 (fun e F' H' => e = .normal ∧ Weak 36 [900, 1003, 903, 1004, 1008] F' H' [] [(900, .lp o [(10, .fn (.func 208) [.rp [.rs 4 (r.map cPl)]]), (1, .rp [.rs 4 (r.map cPl)]), (3, .ptr 1003 0 0), (4, .ptr 1004 0 0)]), (1003, .cells 170 1 [[.sl 904 0 (accS r l p q s).length]] false), (904, .cells 174 4 ((accS r l p q s).map cPt) true), (1004, .cells 211 1 [[.mp 1008]] false), (1008, .mset ((accS r l p q s).map ptK)), (903, .dead)]) [(5, .ptr 5 0 0), (1, .rp [.rs 4 (r.map cPl)]), (3, .ptr 1003 0 0), (4, .ptr 1004 0 0)] [(900, .lp o [(10, .fn (.func 208) [.rp [.rs 4 (r.map cPl)]]), (1, .rp [.rs 4 (r.map cPl)]), (3, .ptr 1003 0 0), (4, .ptr 1004 0 0)]), (1003, .cells 170 1 [[.sl 903 0 (l).length]] false), (903, .cells 174 4 ((l).map cPt) true), (1004, .cells 211 1 [[.mp 1008]] false), (1008, .mset ((l).map ptK)), (5, .cells 215 12 [c12 p q s] true)] := by
  delta bd161
  refine Qm (Qb (Qc (Qo rfl rfl rfl rfl (nL rfl) rfl ?_)))
  by_cases h0 : wd3 p q s = 0
  · skip
    refine Qi [] rfl rfl (vc186_n p q s h0) (.cons (Qg rfl) (.nil)) rfl (Qf 4 rfl (Q0 rfl rfl rfl rfl rfl rfl rfl (nL rfl) rfl rfl (Qe rfl rfl (Qa fun _ => Qd (Qb (Qc (Qf 12 rfl (Qa fun _ => ?_))))))))
    refine Qd (Qh rfl (fun h => by cases h) (fun _ => ?_))
    refine Qn (QI ?_)
    rw [acc_1 h0]
    exact ⟨rfl, (Weak.trans (F1 := []) (H1 := [(900, .lp o [(10, .fn (.func 208) [.rp [.rs 4 (r.map cPl)]]), (1, .rp [.rs 4 (r.map cPl)]), (3, .ptr 1003 0 0), (4, .ptr 1004 0 0)]), (1003, .cells 170 1 [[.sl 903 0 (l).length]] false), (903, .cells 174 4 ((l).map cPt) true), (1004, .cells 211 1 [[.mp 1008]] false), (1008, .mset ((l).map ptK))]) (Qj (.nil) (.keep (rfl) rfl (.keep (rfl) rfl (.keep (rfl) rfl (.keep (rfl) rfl (.keep (rfl) rfl (.nil)))))) (fun i hi => by simp [Qp] at hi ⊢; omega)) (Weak.trans (F1 := []) (QH (i := 903) (i' := 904) (k := 1003) rfl rfl (.nil) (by decide) rfl (.sl _ _)) (Qj (.nil) (.keep (rfl) rfl (.keep (rfl) rfl (.keep (rfl) rfl (.keep (rfl) rfl (.keep (rfl) rfl (.keep (rfl) rfl (.nil))))))) (fun i hi => by simp [Qp] at hi ⊢; omega))))⟩
  · skip
    refine Qi [] rfl rfl (vc186_s p q s h0 hok) (.cons (Qg rfl) (.nil)) rfl (Qf 4 rfl (Q0 rfl rfl rfl rfl rfl rfl rfl (nL rfl) rfl rfl (Qe rfl rfl (Qa fun _ => Qd (Qb (Qc (Qf 3 rfl (Qo rfl rfl rfl rfl (nL rfl) rfl ?_))))))))
    refine rs_mhas (l := ptK (mtP p q s)) rfl rfl rfl rfl rfl rfl (ptK_len l) ?_
    cases h21 : decide (ptK (mtP p q s) ∈ l.map ptK)
    · skip
      refine Qf 4 rfl (Qo rfl rfl rfl rfl (nL rfl) rfl (Qi [] rfl rfl (vc187 r (mtP p q s) (by omega)) (.cons (Qg rfl) (.cons (Qg rfl) (.nil))) rfl ?_))
      cases h27 : withS r (mtP p q s)
      · skip
        refine QM rfl rfl rfl (Qa fun _ => Qd (Qh rfl (fun h => by cases h) (fun _ => ?_)))
        refine Qn (QI ?_)
        rw [acc_4 h0 h21 h27]
        exact ⟨rfl, (Weak.trans (F1 := []) (H1 := [(900, .lp o [(10, .fn (.func 208) [.rp [.rs 4 (r.map cPl)]]), (1, .rp [.rs 4 (r.map cPl)]), (3, .ptr 1003 0 0), (4, .ptr 1004 0 0)]), (1003, .cells 170 1 [[.sl 903 0 (l).length]] false), (903, .cells 174 4 ((l).map cPt) true), (1004, .cells 211 1 [[.mp 1008]] false), (1008, .mset ((l).map ptK))]) (Qj (.nil) (.keep (rfl) rfl (.keep (rfl) rfl (.keep (rfl) rfl (.keep (rfl) rfl (.keep (rfl) rfl (.nil)))))) (fun i hi => by simp [Qp] at hi ⊢; omega)) (Weak.trans (F1 := []) (QH (i := 903) (i' := 904) (k := 1003) rfl rfl (.nil) (by decide) rfl (.sl _ _)) (Qj (.nil) (.keep (rfl) rfl (.keep (rfl) rfl (.keep (rfl) rfl (.keep (rfl) rfl (.keep (rfl) rfl (.keep (rfl) rfl (.nil))))))) (fun i hi => by simp [Qp] at hi ⊢; omega))))⟩
      · skip
        refine QM rfl rfl rfl (Qa fun _ => Qd (Qh rfl (fun _ => ?_) (fun h => by cases h)))
        refine Qb (Qc (QY rfl rfl rfl rfl rfl (Qo rfl rfl rfl rfl (nL rfl) rfl (rs_mapadd (l := ptK (mtP p q s)) rfl rfl rfl rfl rfl rfl rfl (ptK_len l) (of_decide_eq_false h21) (Qa fun _ => Qd (Qc (QY rfl rfl rfl rfl rfl (Qo rfl rfl rfl rfl (nL rfl) rfl ?_))))))))
        refine Qv (l := (([mtP p q s] : List Pt)).flatMap cPt) (els := (([mtP p q s] : List Pt)).map cPt) (fl := true) rfl (by kernel_rfl) rfl rfl (by kernel_rfl) (by kernel_rfl) (QV (f := cPt) (xs := l) (y := mtP p q s) (fl' := true) rfl rfl rfl rfl (rfl) rfl rfl rfl (by decide) rfl (by omega) (by omega) rfl (Q0 rfl rfl rfl rfl rfl rfl rfl (nL rfl) rfl rfl (Qa fun _ => QI ?_)))
        rw [acc_3 h0 h21 h27]
        exact ⟨rfl, (Weak.trans (F1 := []) (H1 := [(900, .lp o [(10, .fn (.func 208) [.rp [.rs 4 (r.map cPl)]]), (1, .rp [.rs 4 (r.map cPl)]), (3, .ptr 1003 0 0), (4, .ptr 1004 0 0)]), (1003, .cells 170 1 [[.sl 34 0 (l ++ [mtP p q s]).length]] false), (34, .cells 174 4 ((l ++ [mtP p q s]).map cPt) true), (1004, .cells 211 1 [[.mp 1008]] false), (1008, .mset ((l ++ [mtP p q s]).map ptK)), (903, .dead)]) (Qj (.nil) (.keep (rfl) rfl (.keep (by rw [len_snoc]; rfl) rfl (.keep (rfl) rfl (.keep (rfl) rfl (.keep (by rw [map_snocK]; rfl) rfl (.keep (rfl) rfl (.nil))))))) (fun i hi => by simp [Qp] at hi ⊢; omega)) (Weak.trans (F1 := []) (QH (i := 34) (i' := 904) (k := 1003) rfl rfl (.nil) (by decide) rfl (.sl _ _)) (Qj (.nil) (.keep (rfl) rfl (.keep (rfl) rfl (.keep (rfl) rfl (.keep (rfl) rfl (.keep (rfl) rfl (.keep (rfl) rfl (.nil))))))) (fun i hi => by simp [Qp] at hi ⊢; omega))))⟩
    · skip
      refine Qf 7 rfl (Qa fun _ => Qd (Qh rfl (fun h => by cases h) (fun _ => ?_)))
      refine Qn (QI ?_)
      rw [acc_2 h0 h21]
      exact ⟨rfl, (Weak.trans (F1 := []) (H1 := [(900, .lp o [(10, .fn (.func 208) [.rp [.rs 4 (r.map cPl)]]), (1, .rp [.rs 4 (r.map cPl)]), (3, .ptr 1003 0 0), (4, .ptr 1004 0 0)]), (1003, .cells 170 1 [[.sl 903 0 (l).length]] false), (903, .cells 174 4 ((l).map cPt) true), (1004, .cells 211 1 [[.mp 1008]] false), (1008, .mset ((l).map ptK))]) (Qj (.nil) (.keep (rfl) rfl (.keep (rfl) rfl (.keep (rfl) rfl (.keep (rfl) rfl (.keep (rfl) rfl (.nil)))))) (fun i hi => by simp [Qp] at hi ⊢; omega)) (Weak.trans (F1 := []) (QH (i := 903) (i' := 904) (k := 1003) rfl rfl (.nil) (by decide) rfl (.sl _ _)) (Qj (.nil) (.keep (rfl) rfl (.keep (rfl) rfl (.keep (rfl) rfl (.keep (rfl) rfl (.keep (rfl) rfl (.keep (rfl) rfl (.nil))))))) (fun i hi => by simp [Qp] at hi ⊢; omega))))⟩
theorem y161 (r : List Pl) (hr : r.length ≤ 110) (p q s : Pl) (hok : okT p q s = true) (l : List Pt) (hl : l.length ≤ 2000000) (r0 : Loop) (h : Rec0 Tryz.prog 36 [11] as161 bd161 r0) :
    FCg (Jc Tryz.prog) [.yl 900, .agg (c12 p q s)] [(900, .lp r0 [(10, .fn (.func 208) [.rp [.rs 4 (r.map cPl)]]), (1, .rp [.rs 4 (r.map cPl)]), (3, .ptr 1003 0 0), (4, .ptr 1004 0 0)]), (1003, .cells 170 1 [[.sl 903 0 (l).length]] false), (903, .cells 174 4 ((l).map cPt) true), (1004, .cells 211 1 [[.mp 1008]] false), (1008, .mset ((l).map ptK))] (.bool true) [(900, .lp r0 [(10, .fn (.func 208) [.rp [.rs 4 (r.map cPl)]]), (1, .rp [.rs 4 (r.map cPl)]), (3, .ptr 1003 0 0), (4, .ptr 1004 0 0)]), (1003, .cells 170 1 [[.sl 904 0 (accS r l p q s).length]] false), (904, .cells 174 4 ((accS r l p q s).map cPt) true), (1004, .cells 211 1 [[.mp 1008]] false), (1008, .mset ((accS r l p q s).map ptK)), (903, .dead)] true := by
  have := round_yield (P := Tryz.prog) (F := [(10, .fn (.func 208) [.rp [.rs 4 (r.map cPl)]]), (1, .rp [.rs 4 (r.map cPl)]), (3, .ptr 1003 0 0), (4, .ptr 1004 0 0)]) (N := 36) (x := as161) (y := bd161) h.ca h.cb (li := 900) (ps := [11]) (vs := [.agg (c12 p q s)]) (J := [(1003, .cells 170 1 [[.sl 903 0 (l).length]] false), (903, .cells 174 4 ((l).map cPt) true), (1004, .cells 211 1 [[.mp 1008]] false), (1008, .mset ((l).map ptK))]) (J1 := [(1003, .cells 170 1 [[.sl 903 0 (l).length]] false), (903, .cells 174 4 ((l).map cPt) true), (1004, .cells 211 1 [[.mp 1008]] false), (1008, .mset ((l).map ptK)), (5, .cells 215 12 [c12 p q s] true)]) (J' := [(1003, .cells 170 1 [[.sl 904 0 (accS r l p q s).length]] false), (904, .cells 174 4 ((accS r l p q s).map cPt) true), (1004, .cells 211 1 [[.mp 1008]] false), (1008, .mset ((accS r l p q s).map ptK)), (903, .dead)]) (Fb := [(5, .ptr 5 0 0), (1, .rp [.rs 4 (r.map cPl)]), (3, .ptr 1003 0 0), (4, .ptr 1004 0 0)]) (Z0 := [900, 1003, 903, 1004, 1008]) .normal none (.inl ⟨rfl, rfl⟩)
    rfl rfl (fun i hi => QS.1 hi) (by simp) (fun i h => QS.2 h) (fun i hi => QS.1 (by simp [Qp] at hi ⊢; omega)) h.state h.params rfl rfl h.size (fun t v h => get_mem h) (fun lb o => as161w r hr p q s hok l hl o lb) (fun lb o => bd161w r hr p q s hok l hl o lb)
  rw [rec_same h.state h.pending] at this
  exact this
def mcv208 : MC := (.seq (.reg [oD 9 1 1 [], oN 10 (.len (.t 9)) [0], oN 11 (.mv (.c (.int .i64 0))) []] false) (.block 0 (.loop (.seq (.reg [oN 12 (.bin .lss (.t 11) (.t 10)) []] false) (.seq (.cond (.t 12) .skip (.exit 0)) (.seq (.block 1 (.seq (.reg [oM 13 11 [], oN 14 (.ixsl 4 (.t 9) (.t 11)) [], oN 15 (.ld true 4 (.t 14)) [1], oN 4 (.alloc 90 4 [(.int .i64 0), (.int .i64 0), (.int .i64 0), (.int .i64 0)]) [], oM 3 13 [0, 0, 1, 2, 3], ⟨none, (.st 4 (.t 4) (.t 15)), none, [3, 2, 4, 0, 1, 2, 3, 4]⟩] false) (.seq (.reg [oD 16 1 1 [], oM 17 3 [], oN 18 (.bin .add (.t 17) (.c (.int .i64 1))) [1], oN 19 (.slc 4 (.t 16) (some (.t 18)) none) [0, 2], oN 20 (.len (.t 19)) [3], oN 21 (.mv (.c (.int .i64 0))) []] false) (.block 2 (.loop (.seq (.reg [oN 22 (.bin .lss (.t 21) (.t 20)) []] false) (.seq (.cond (.t 22) .skip (.exit 2)) (.seq (.block 3 (.seq (.reg [oM 23 21 [], oN 24 (.ixsl 4 (.t 19) (.t 21)) [], oN 25 (.ld true 4 (.t 24)) [1], oN 6 (.alloc 90 4 [(.int .i64 0), (.int .i64 0), (.int .i64 0), (.int .i64 0)]) [], oM 5 23 [0, 0, 1, 2, 3], ⟨none, (.st 4 (.t 6) (.t 25)), none, [3, 2, 4, 0, 1, 2, 3, 4]⟩] false) (.seq (.reg [oD 26 1 1 [], oM 27 3 [], oM 28 5 [], oN 29 (.bin .add (.t 27) (.t 28)) [1, 2], oN 30 (.bin .add (.t 29) (.c (.int .i64 2))) [3], oN 31 (.slc 4 (.t 26) (some (.t 30)) none) [0, 4], oN 32 (.len (.t 31)) [5], oN 33 (.mv (.c (.int .i64 0))) []] false) (.block 4 (.loop (.seq (.reg [oN 34 (.bin .lss (.t 33) (.t 32)) []] false) (.seq (.cond (.t 34) .skip (.exit 4)) (.seq (.block 5 (.seq (.reg [oN 35 (.ixsl 4 (.t 31) (.t 33)) [], oN 36 (.ld true 4 (.t 35)) [0], oN 8 (.alloc 90 4 [(.int .i64 0), (.int .i64 0), (.int .i64 0), (.int .i64 0)]) [], ⟨none, (.st 4 (.t 8) (.t 36)), none, [2, 1, 0, 1, 2]⟩] false) (.seq (.reg [oM 37 0 [], oN 38 (.ld true 4 (.t 4)) [], oN 39 (.ld true 4 (.t 6)) [], oN 40 (.ld true 4 (.t 8)) [], oN 41 (.build [(.int .i64 0), (.int .i64 0), (.int .i64 0), (.int .i64 0), (.int .i64 0), (.int .i64 0), (.int .i64 0), (.int .i64 0), (.int .i64 0), (.int .i64 0), (.int .i64 0), (.int .i64 0)] [(0, (4, (.t 38))), (4, (4, (.t 39))), (8, (4, (.t 40)))]) [1, 2, 3], oN 42 (.callv (.t 37) [(.t 41)]) [0, 4], oN 43 (.un .not (.t 42)) [5]] false) (.cond (.t 43) .ret .skip)))) (.reg [oN 44 (.bin .add (.t 33) (.c (.int .i64 1))) [], oM 33 44 [0]] false))))))))) (.reg [oN 45 (.bin .add (.t 21) (.c (.int .i64 1))) [], oM 21 45 [0]] false))))))))) (.reg [oN 46 (.bin .add (.t 11) (.c (.int .i64 1))) [], oM 11 46 [0]] false)))))))
theorem mcOkv208 : (match Tryz.f208.body with | some c => Q2 Tryz.prog 47 c | none => none) = some mcv208 := by kernel_rfl
theorem vc208 (r : List Pl) (hr : r.length ≤ 110) (hok : okTop r = true) (r0 : Loop) (h : Rec0 Tryz.prog 36 [11] as161 bd161 r0) : FC Tryz.prog 208 [.yl 900, .rp [.rs 4 (r.map cPl)]] [(900, .lp r0 [(10, .fn (.func 208) [.rp [.rs 4 (r.map cPl)]]), (1, .rp [.rs 4 (r.map cPl)]), (3, .ptr 1003 0 0), (4, .ptr 1004 0 0)]), (1003, .cells 170 1 [[.sl 901 0 (([] : List Pt)).length]] false), (901, .cells 174 4 ((([] : List Pt)).map cPt) true), (1004, .cells 211 1 [[.mp 1008]] false), (1008, .mset ((([] : List Pt)).map ptK))] (.tup []) [(900, .lp r0 [(10, .fn (.func 208) [.rp [.rs 4 (r.map cPl)]]), (1, .rp [.rs 4 (r.map cPl)]), (3, .ptr 1003 0 0), (4, .ptr 1004 0 0)]), (1003, .cells 170 1 [[.sl 903 0 (cornS r).length]] false), (903, .cells 174 4 ((cornS r).map cPt) true), (1004, .cells 211 1 [[.mp 1008]] false), (1008, .mset ((cornS r).map ptK)), (901, .dead)] true := by
  refine Qs (nt := 47) Tryz.func208 rfl rfl mcOkv208 (nL rfl) ?_
  delta mcv208
  refine Qb (Qc (Xh rfl rfl rfl (Qq rfl rfl (Qe rfl rfl (Qa fun _ => Qd (Qm ?_))))))
  refine QC (α := Nat × List Pt) (fun u => r.length - u.1) (fun u => [(0, .yl 900), (1, .rp [.rs 4 (r.map cPl)]), (9, .rs 4 (r.map cPl)), (10, iv (r.length : Int)), (11, iv (((u.1) : Nat) : Int))]) (fun u => [(900, .lp r0 [(10, .fn (.func 208) [.rp [.rs 4 (r.map cPl)]]), (1, .rp [.rs 4 (r.map cPl)]), (3, .ptr 1003 0 0), (4, .ptr 1004 0 0)]), (1003, .cells 170 1 [[.sl 903 0 (u.2).length]] false), (903, .cells 174 4 ((u.2).map cPt) true), (1004, .cells 211 1 [[.mp 1008]] false), (1008, .mset ((u.2).map ptK)), (901, .dead)]) (fun u => u.1 ≤ r.length ∧ topS r u.2 (r.drop u.1) = cornS r ∧ u.2.length ≤ u.1 * 12100) (0, []) (⟨by omega, rfl, by simp⟩)
    ((Weak.trans (F1 := [(0, .yl 900), (1, .rp [.rs 4 (r.map cPl)]), (9, .rs 4 (r.map cPl)), (10, iv (r.length : Int)), (11, iv (((0) : Nat) : Int))]) (H1 := [(900, .lp r0 [(10, .fn (.func 208) [.rp [.rs 4 (r.map cPl)]]), (1, .rp [.rs 4 (r.map cPl)]), (3, .ptr 1003 0 0), (4, .ptr 1004 0 0)]), (1003, .cells 170 1 [[.sl 901 0 (([] : List Pt)).length]] false), (901, .cells 174 4 ((([] : List Pt)).map cPt) true), (1004, .cells 211 1 [[.mp 1008]] false), (1008, .mset ((([] : List Pt)).map ptK))]) (Qj (.cs (.cs (.cs (.cs (.cs (.nil)))))) (.keep (rfl) rfl (.keep (rfl) rfl (.keep (rfl) rfl (.keep (rfl) rfl (.keep (rfl) rfl (.nil)))))) (fun i hi => by simp [Qp] at hi ⊢; omega)) (Weak.trans (F1 := [(0, .yl 900), (1, .rp [.rs 4 (r.map cPl)]), (9, .rs 4 (r.map cPl)), (10, iv (r.length : Int)), (11, iv (((0) : Nat) : Int))]) (QH (i := 901) (i' := 903) (k := 1003) rfl rfl (.cons rfl (.same _) (.cons rfl (.same _) (.cons rfl (.same _) (.cons rfl (.same _) (.cons rfl (.same _) (.nil)))))) (by decide) rfl (.sl _ _)) (Qj (.cs (.cs (.cs (.cs (.cs (.nil)))))) (.keep (rfl) rfl (.keep (rfl) rfl (.keep (rfl) rfl (.keep (rfl) rfl (.keep (rfl) rfl (.keep (rfl) rfl (.nil))))))) (fun i hi => by simp [Qp] at hi ⊢; omega))))) ?_
  rintro ⟨i, l⟩ ⟨hi, hinv, hll⟩
  dsimp only at hi hinv hll ⊢
  refine Qb (Qc (QJ rfl rfl rfl (Qa fun _ => Qd (Qb (Qh rfl (fun h12 => ?_) (fun h12 => ?_))))))
  · replace h12 := of_decide_eq_true h12
    refine Qn (Qd (Qb (Qm (Qb (Qc (Qe rfl rfl ?_))))))
    obtain ⟨p, hp, hpm⟩ := Qy (L := r) (k := i) (by omega)
    rw [topS_at hp] at hinv
    have hok1 := okTop_at hok hp
    have hl1 : (r.drop (i + 1)).length = r.length - (i + 1) := List.length_drop
    refine Qt (f := cPl) (y := p) rfl rfl rfl (by omega) hp (QR (cs := cPl p) rfl rfl (nL rfl) rfl (Qf 2 rfl (Q0 rfl rfl rfl rfl rfl rfl rfl (nL rfl) rfl rfl (Qa fun _ => Qd (Qb (Qc (Qf 2 rfl (Qx rfl rfl rfl (by omega) ?_))))))))
    refine rs_slc_r (l := (i : Int) + 1) (q := ((r.map cPl).length : Nat)) (els' := (r.drop (i + 1)).map cPl) rfl rfl rfl rfl rfl (by omega) (by simp; omega) (Int.le_refl _) (slc_drop r (i + 1) (by omega)) (Qq rfl rfl (Qe rfl rfl (Qa fun _ => Qd (Qm ?_))))
    refine QC (α := Nat × List Pt) (fun u => (r.drop (i + 1)).length - u.1) (fun u => [(0, .yl 900), (1, .rp [.rs 4 (r.map cPl)]), (9, .rs 4 (r.map cPl)), (10, iv (r.length : Int)), (11, iv (((i) : Nat) : Int)), (3, iv (((i) : Nat) : Int)), (4, .ptr 4 0 0), (19, .rs 4 ((r.drop (i + 1)).map cPl)), (20, iv ((r.drop (i + 1)).length : Int)), (21, iv (((u.1) : Nat) : Int))]) (fun u => [(900, .lp r0 [(10, .fn (.func 208) [.rp [.rs 4 (r.map cPl)]]), (1, .rp [.rs 4 (r.map cPl)]), (3, .ptr 1003 0 0), (4, .ptr 1004 0 0)]), (1003, .cells 170 1 [[.sl 903 0 (u.2).length]] false), (903, .cells 174 4 ((u.2).map cPt) true), (1004, .cells 211 1 [[.mp 1008]] false), (1008, .mset ((u.2).map ptK)), (901, .dead), (4, .cells 90 4 [cPl p] true)]) (fun u => u.1 ≤ (r.drop (i + 1)).length ∧ midS r p u.2 ((r.drop (i + 1)).drop u.1) = midS r p l (r.drop (i + 1)) ∧ u.2.length ≤ i * 12100 + u.1 * 110) (0, l) (⟨by omega, rfl, by omega⟩)
      (Qj (.cs (.cs (.cs (.cs (.cs (.cs (.cs (.cs (.cs (.cs (.nil))))))))))) (.keep (rfl) rfl (.keep (rfl) rfl (.keep (rfl) rfl (.keep (rfl) rfl (.keep (rfl) rfl (.keep (rfl) rfl (.keep (rfl) rfl (.nil)))))))) (fun i hi => by simp [Qp] at hi ⊢; omega)) ?_
    rintro ⟨j, m⟩ ⟨hj, hinv2, hml⟩
    dsimp only at hj hinv2 hml ⊢
    refine Qb (Qc (QJ rfl rfl rfl (Qa fun _ => Qd (Qb (Qh rfl (fun h22 => ?_) (fun h22 => ?_))))))
    · replace h22 := of_decide_eq_true h22
      refine Qn (Qd (Qb (Qm (Qb (Qc (Qe rfl rfl ?_))))))
      obtain ⟨q, hq, hqm⟩ := Qy (L := r.drop (i + 1)) (k := j) (by omega)
      rw [midS_at hq] at hinv2
      have hok2 := okMid_at hok1 hq
      have hl2 : ((r.drop (i + 1)).drop (j + 1)).length = (r.drop (i + 1)).length - (j + 1) := List.length_drop
      refine Qt (f := cPl) (y := q) rfl rfl rfl (by omega) hq (QR (cs := cPl q) rfl rfl (nL rfl) rfl (Qf 2 rfl (Q0 rfl rfl rfl rfl rfl rfl rfl (nL rfl) rfl rfl (Qa fun _ => Qd (Qb (Qc (Qf 3 rfl (Qx rfl rfl rfl (by omega) ?_))))))))
      refine Qx rfl rfl rfl (by omega) (rs_slc_r (l := (i : Int) + (j : Int) + 2) (q := ((r.map cPl).length : Nat)) (els' := ((r.drop (i + 1)).drop (j + 1)).map cPl) rfl rfl rfl rfl rfl (by omega) (by simp; omega) (Int.le_refl _) (by rw [List.drop_drop]; exact slc_drop r _ (by omega)) (Qq rfl rfl (Qe rfl rfl (Qa fun _ => Qd (Qm ?_)))))
      refine QC (α := Nat × List Pt) (fun u => ((r.drop (i + 1)).drop (j + 1)).length - u.1) (fun u => [(0, .yl 900), (1, .rp [.rs 4 (r.map cPl)]), (9, .rs 4 (r.map cPl)), (10, iv (r.length : Int)), (11, iv (((i) : Nat) : Int)), (3, iv (((i) : Nat) : Int)), (4, .ptr 4 0 0), (19, .rs 4 ((r.drop (i + 1)).map cPl)), (20, iv ((r.drop (i + 1)).length : Int)), (21, iv (((j) : Nat) : Int)), (5, iv (((j) : Nat) : Int)), (6, .ptr 6 0 0), (31, .rs 4 (((r.drop (i + 1)).drop (j + 1)).map cPl)), (32, iv (((r.drop (i + 1)).drop (j + 1)).length : Int)), (33, iv (((u.1) : Nat) : Int))]) (fun u => [(900, .lp r0 [(10, .fn (.func 208) [.rp [.rs 4 (r.map cPl)]]), (1, .rp [.rs 4 (r.map cPl)]), (3, .ptr 1003 0 0), (4, .ptr 1004 0 0)]), (1003, .cells 170 1 [[.sl 903 0 (u.2).length]] false), (903, .cells 174 4 ((u.2).map cPt) true), (1004, .cells 211 1 [[.mp 1008]] false), (1008, .mset ((u.2).map ptK)), (901, .dead), (4, .cells 90 4 [cPl p] true), (6, .cells 90 4 [cPl q] true)]) (fun u => u.1 ≤ ((r.drop (i + 1)).drop (j + 1)).length ∧ innS r p q u.2 (((r.drop (i + 1)).drop (j + 1)).drop u.1) = innS r p q m ((r.drop (i + 1)).drop (j + 1)) ∧ u.2.length ≤ i * 12100 + j * 110 + u.1) (0, m) (⟨by omega, rfl, by omega⟩)
        (Qj (.cs (.cs (.cs (.cs (.cs (.cs (.cs (.cs (.cs (.cs (.cs (.cs (.cs (.cs (.cs (.nil)))))))))))))))) (.keep (rfl) rfl (.keep (rfl) rfl (.keep (rfl) rfl (.keep (rfl) rfl (.keep (rfl) rfl (.keep (rfl) rfl (.keep (rfl) rfl (.keep (rfl) rfl (.nil))))))))) (fun i hi => by simp [Qp] at hi ⊢; omega)) ?_
      rintro ⟨k, n⟩ ⟨hk, hinv3, hnl⟩
      dsimp only at hk hinv3 hnl ⊢
      refine Qb (Qc (QJ rfl rfl rfl (Qa fun _ => Qd (Qb (Qh rfl (fun h34 => ?_) (fun h34 => ?_))))))
      · replace h34 := of_decide_eq_true h34
        refine Qn (Qd (Qb (Qm (Qb (Qc ?_)))))
        obtain ⟨s, hs, hsm⟩ := Qy (L := (r.drop (i + 1)).drop (j + 1)) (k := k) (by omega)
        rw [innS_at hs] at hinv3
        have hokt := List.all_eq_true.1 hok2 s hsm
        have hal := accS_len r n p q s
        refine Qt (f := cPl) (y := s) rfl rfl rfl (by omega) hs (QR (cs := cPl s) rfl rfl (nL rfl) rfl (QF rfl rfl rfl (Q0 rfl rfl rfl rfl rfl rfl rfl (nL rfl) rfl rfl (Qa fun _ => Qd (Qb (Qc (Qe rfl rfl (Qo rfl rfl rfl rfl (nL rfl) rfl ?_))))))))
        refine Qo rfl rfl rfl rfl (nL rfl) rfl (Qo rfl rfl rfl rfl (nL rfl) rfl (QU rfl rfl (rs_yield [(900, .lp r0 [(10, .fn (.func 208) [.rp [.rs 4 (r.map cPl)]]), (1, .rp [.rs 4 (r.map cPl)]), (3, .ptr 1003 0 0), (4, .ptr 1004 0 0)]), (1003, .cells 170 1 [[.sl 903 0 (n).length]] false), (903, .cells 174 4 ((n).map cPt) true), (1004, .cells 211 1 [[.mp 1008]] false), (1008, .mset ((n).map ptK))] rfl rfl rfl (y161 r hr p q s hokt n (by omega) r0 h) (.cons (Qg rfl) (.cons (Qg rfl) (.nil))) (.cons rfl (.cons rfl (.cons rfl (.cons rfl (.cons rfl (.nil)))))) rfl rfl rfl (rs_not rfl rfl (Qa fun _ => Qd (Qh rfl (fun h => by cases h) (fun _ => ?_)))))))
        refine Qn (QI (Qd (Qc (Qx rfl rfl rfl (by omega) (Qe rfl rfl (Qa fun _ => Qd ?_))))))
        exact ⟨(k + 1, accS r n p q s), ⟨by show k + 1 ≤ _; omega, hinv3, by show (accS r n p q s).length ≤ i * 12100 + j * 110 + (k + 1); omega⟩, by show _ - (k + 1) < _; omega, (Weak.trans (F1 := [(0, .yl 900), (1, .rp [.rs 4 (r.map cPl)]), (9, .rs 4 (r.map cPl)), (10, iv (r.length : Int)), (11, iv (((i) : Nat) : Int)), (3, iv (((i) : Nat) : Int)), (4, .ptr 4 0 0), (19, .rs 4 ((r.drop (i + 1)).map cPl)), (20, iv ((r.drop (i + 1)).length : Int)), (21, iv (((j) : Nat) : Int)), (5, iv (((j) : Nat) : Int)), (6, .ptr 6 0 0), (31, .rs 4 (((r.drop (i + 1)).drop (j + 1)).map cPl)), (32, iv (((r.drop (i + 1)).drop (j + 1)).length : Int)), (33, iv (((k + 1) : Nat) : Int))]) (H1 := [(900, .lp r0 [(10, .fn (.func 208) [.rp [.rs 4 (r.map cPl)]]), (1, .rp [.rs 4 (r.map cPl)]), (3, .ptr 1003 0 0), (4, .ptr 1004 0 0)]), (1003, .cells 170 1 [[.sl 904 0 (accS r n p q s).length]] false), (904, .cells 174 4 ((accS r n p q s).map cPt) true), (1004, .cells 211 1 [[.mp 1008]] false), (1008, .mset ((accS r n p q s).map ptK)), (901, .dead), (4, .cells 90 4 [cPl p] true), (6, .cells 90 4 [cPl q] true)]) (Qj (.cs (.cs (.cs (.cs (.cs (.cs (.cs (.cs (.cs (.cs (.cs (.cs (.cs (.cs (.cs (.nil)))))))))))))))) (.keep (rfl) rfl (.keep (rfl) rfl (.keep (rfl) rfl (.keep (rfl) rfl (.keep (rfl) rfl (.keep (rfl) rfl (.keep (rfl) rfl (.keep (rfl) rfl (.nil))))))))) (fun i hi => by simp [Qp] at hi ⊢; omega)) (Weak.trans (F1 := [(0, .yl 900), (1, .rp [.rs 4 (r.map cPl)]), (9, .rs 4 (r.map cPl)), (10, iv (r.length : Int)), (11, iv (((i) : Nat) : Int)), (3, iv (((i) : Nat) : Int)), (4, .ptr 4 0 0), (19, .rs 4 ((r.drop (i + 1)).map cPl)), (20, iv ((r.drop (i + 1)).length : Int)), (21, iv (((j) : Nat) : Int)), (5, iv (((j) : Nat) : Int)), (6, .ptr 6 0 0), (31, .rs 4 (((r.drop (i + 1)).drop (j + 1)).map cPl)), (32, iv (((r.drop (i + 1)).drop (j + 1)).length : Int)), (33, iv (((k + 1) : Nat) : Int))]) (QH (i := 904) (i' := 903) (k := 1003) rfl rfl (.cons rfl (.same _) (.cons rfl (.same _) (.cons rfl (.same _) (.cons rfl (.same _) (.cons rfl (.same _) (.cons rfl (.same _) (.cons rfl (.same _) (.cons rfl (.same _) (.cons rfl (.same _) (.cons rfl (.same _) (.cons rfl (.same _) (.cons rfl (.same _) (.cons rfl (.same _) (.cons rfl (.same _) (.cons rfl (.same _) (.nil)))))))))))))))) (by decide) rfl (.sl _ _)) (Qj (.cs (.cs (.cs (.cs (.cs (.cs (.cs (.cs (.cs (.cs (.cs (.cs (.cs (.cs (.cs (.nil)))))))))))))))) (.keep (rfl) rfl (.keep (rfl) rfl (.keep (rfl) rfl (.keep (rfl) rfl (.keep (rfl) rfl (.keep (rfl) rfl (.keep (rfl) rfl (.keep (rfl) rfl (.nil))))))))) (fun i hi => by simp [Qp] at hi ⊢; omega))))⟩
      · replace h34 := of_decide_eq_false h34
        refine Q3 (QB (QB (QA (QI (Qd (Qc (Qx rfl rfl rfl (by omega) (Qe rfl rfl (Qa fun _ => ?_)))))))))
        refine Qd ?_
        have e : n = innS r p q m ((r.drop (i + 1)).drop (j + 1)) := by rw [← hinv3, List.drop_eq_nil_of_le (by omega)]; rfl
        exact ⟨(j + 1, n), ⟨by show j + 1 ≤ _; omega, by rw [← hinv2, ← e], by show n.length ≤ i * 12100 + (j + 1) * 110; omega⟩, by show _ - (j + 1) < _; omega, Qj (.cs (.cs (.cs (.cs (.cs (.cs (.cs (.cs (.cs (.cs (.nil))))))))))) (.keep (rfl) rfl (.keep (rfl) rfl (.keep (rfl) rfl (.keep (rfl) rfl (.keep (rfl) rfl (.keep (rfl) rfl (.keep (rfl) rfl (.nil)))))))) (fun i hi => by simp [Qp] at hi ⊢; omega)⟩
    · replace h22 := of_decide_eq_false h22
      refine Q3 (QB (QB (QA (QI (Qd (Qc (Qx rfl rfl rfl (by omega) (Qe rfl rfl (Qa fun _ => ?_)))))))))
      refine Qd ?_
      have e : m = midS r p l (r.drop (i + 1)) := by rw [← hinv2, List.drop_eq_nil_of_le (by omega)]; rfl
      exact ⟨(i + 1, m), ⟨by show i + 1 ≤ _; omega, by rw [← hinv, ← e], by show m.length ≤ (i + 1) * 12100; omega⟩, by show _ - (i + 1) < _; omega, Qj (.cs (.cs (.cs (.cs (.cs (.nil)))))) (.keep (rfl) rfl (.keep (rfl) rfl (.keep (rfl) rfl (.keep (rfl) rfl (.keep (rfl) rfl (.keep (rfl) rfl (.nil))))))) (fun i hi => by simp [Qp] at hi ⊢; omega)⟩
  · replace h12 := of_decide_eq_false h12
    refine Q3 (QB (QB (QA ?_)))
    have e : l = cornS r := by rw [← hinv, List.drop_eq_nil_of_le (by omega)]; rfl
    subst e
    exact Jh (by first | exact .inl rfl | exact .inr rfl) rfl sm (.keep (rfl) rfl (.keep (rfl) rfl (.keep (rfl) rfl (.keep (rfl) rfl (.keep (rfl) rfl (.keep (rfl) rfl (.nil))))))) (.cons rfl rfl rfl (.cons rfl rfl rfl (.dead rfl rfl (.cons rfl rfl rfl (.cons rfl rfl rfl (.nil))))))
end Go.Proofs.YthfhaoogcpfboaaGreat

/-! Walks: VO. -/
namespace Go.Proofs.YthfhaoogcpfboaaGreat
open Go.RowKit
set_option maxRecDepth 100000
set_option linter.unusedVariables false
theorem innS_len (r : List Pl) (p q : Pl) : ∀ (t : List Pl) (l : List Pt), (innS r p q l t).length ≤ l.length + t.length
  | [], l => Nat.le_refl _
  | s :: t, l => by
    have h1 := innS_len r p q t (accS r l p q s)
    have h2 := accS_len r l p q s
    show (innS r p q (accS r l p q s) t).length ≤ _
    rw [List.length_cons]; omega
theorem midS_len (r : List Pl) (p : Pl) (N : Nat) : ∀ (t : List Pl) (l : List Pt), t.length ≤ N → (midS r p l t).length ≤ l.length + t.length * N
  | [], l, _ => Nat.le_add_right _ _
  | q :: t, l, h => by
    have h1 := midS_len r p N t (innS r p q l t) (by rw [List.length_cons] at h; omega)
    have h2 := innS_len r p q t l
    show (midS r p (innS r p q l t) t).length ≤ _
    rw [List.length_cons] at h ⊢
    rw [Nat.succ_mul]; omega
theorem topS_len (r : List Pl) (N : Nat) : ∀ (t : List Pl) (l : List Pt), t.length ≤ N → (topS r l t).length ≤ l.length + t.length * (N * N)
  | [], l, _ => Nat.le_add_right _ _
  | p :: t, l, h => by
    have h1 := topS_len r N t (midS r p l t) (by rw [List.length_cons] at h; omega)
    have h2 := midS_len r p N t l (by rw [List.length_cons] at h; omega)
    have h3 : t.length * N ≤ N * N := Nat.mul_le_mul_right _ (by rw [List.length_cons] at h; omega)
    show (topS r (midS r p l t) t).length ≤ _
    rw [List.length_cons, Nat.succ_mul]; omega
theorem corn_len {r : List Pl} (h : r.length ≤ 110) : (cornS r).length ≤ 1331000 := by
  have h1 := topS_len r 110 r [] h
  unfold cornS
  simp only [List.length_nil] at h1
  omega
def nonS (l : List Pt) (p : Pl) : Bool := !l.any (inB p)
/-- Has a region an interior? -/
def fullS (r : List Pl) : Bool := !r.any (nonS (cornS r))
def mcv161 : MC := (.seq (.reg [oN 1 (.box 167 1 (.t 0)) [], oN 2 (.mv (.c .nils)) []] false) (.seq (.reg [oN 3 (.alloc 170 1 [.nils]) []] false) (.seq (.reg [⟨(some 8), .mkmap, none, []⟩, oN 4 (.alloc 211 1 [.nilm]) [], ⟨none, (.st 1 (.t 4) (.t 8)), none, [1, 0, 0, 1]⟩] false) (.seq (.seq (.reg [oD 9 1 1 [], oN 10 (.call 185 [(.t 9)]) [0]] false) (.block 0 (.rfunc (.t 10) [11] (.reg [oN 5 (.alloc 215 12 [(.int .i64 0), (.int .i64 0), (.int .i64 0), (.int .i64 0), (.int .i64 0), (.int .i64 0), (.int .i64 0), (.int .i64 0), (.int .i64 0), (.int .i64 0), (.int .i64 0), (.int .i64 0)]) [], ⟨none, (.st 12 (.t 5) (.t 11)), none, [0, 0]⟩] false) (.block 1 (.seq (.reg [oN 13 (.ld true 12 (.t 5)) [], oN 14 (.call 186 [(.t 13)]) [0], oM 12 14 [1], oN 15 (.ext (.t 12) 0) [2], oN 16 (.ext (.t 12) 1) [2], oN 6 (.alloc 174 4 [(.int .i64 0), (.int .i64 0), (.int .i64 0), (.int .i64 0)]) [], ⟨none, (.st 4 (.t 6) (.t 15)), none, [5, 3, 1, 0, 1, 2, 3, 5]⟩, oM 7 16 [4, 6, 0, 1, 2, 3, 4, 5, 6]] false) (.seq (.reg [oM 17 7 [], oM 18 17 [0], pD 19 1 4 18 true [1], oG 20 (.ld true 4 (.t 6)) 18 true [1], oG 21 (.mhas 4 (.t 19) (.t 20)) 18 true [2, 3, 1], oG 22 (.un .not (.t 21)) 18 true [4, 1], oN 23 (.pick (.t 18) (.t 22) (.c (.bool false))) [1, 5], oM 24 23 [6, 1], pD 25 1 1 24 true [7], oG 26 (.ld true 4 (.t 6)) 24 true [7], oG 27 (.call 187 [(.t 25), (.t 26)]) 24 true [8, 9, 7, 7], oN 28 (.pick (.t 24) (.t 27) (.c (.bool false))) [7, 10]] false) (.cond (.t 28) (.seq (.reg [oD 29 1 4 [], oN 30 (.ld true 4 (.t 6)) [], ⟨none, (.mapadd 4 (.t 29) (.t 30) (.c (.bool true))), none, [0, 1, 0, 1]⟩] false) (.reg [oD 31 1 3 [], oN 32 (.ld true 4 (.t 6)) [], oN 33 (.bslice 174 4 [(.int .i64 0), (.int .i64 0), (.int .i64 0), (.int .i64 0)] 1 [(0, (.t 32))]) [1], oN 34 (.app 174 4 32 [(.int .i64 0), (.int .i64 0), (.int .i64 0), (.int .i64 0)] (.t 31) (.t 33)) [0, 2], ⟨none, (.st 1 (.t 3) (.t 34)), none, [3, 3, 0, 1, 2, 3]⟩] false)) .skip))))))) (.seq (.reg [oD 35 1 3 [], oM 2 35 [0, 0]] false) .ret)))))
theorem mcOkv161 : (match Tryz.f161.body with | some c => Q2 Tryz.prog 36 c | none => none) = some mcv161 := by kernel_rfl
theorem vc161 (r : List Pl) (hr : r.length ≤ 110) (hok : okTop r = true) : FC Tryz.prog 161 [.rs 4 (r.map cPl)] [] (.rs 4 ((cornS r).map cPt)) [] false := by
  refine Qs (nt := 36) Tryz.func161 rfl rfl mcOkv161 (nL rfl) ?_
  delta mcv161
  refine Qb (Qc (Qf 2 rfl (Qa fun _ => Qd (Qb (Qc (QF rfl rfl rfl (Qa fun _ => Qd ?_)))))))
  refine Qb (Qc (rs_mkmap rfl rfl (QF rfl rfl rfl (Q0 rfl rfl rfl rfl rfl rfl rfl (nL rfl) rfl rfl (Qa fun _ => Qd (Qb (Qb (Qc ?_))))))))
  refine QY rfl rfl rfl rfl rfl (XN [] rfl rfl (vc185 r) (.cons (Qg rfl) .nil) .nil rfl rfl rfl (Qa fun _ => Qd (Qm (Xm (F0 := [(10, .fn (.func 208) [.rp [.rs 4 (r.map cPl)]]), (1, .rp [.rs 4 (r.map cPl)]), (3, .ptr 1003 0 0), (4, .ptr 1004 0 0)]) (H0 := [(1003, .cells 170 1 [[.sl 901 0 (([] : List Pt)).length]] false), (901, .cells 174 4 ((([] : List Pt)).map cPt) true), (1004, .cells 211 1 [[.mp 1008]] false), (1008, .mset ((([] : List Pt)).map ptK))]) (Weak.trans (F1 := [(10, .fn (.func 208) [.rp [.rs 4 (r.map cPl)]]), (1, .rp [.rs 4 (r.map cPl)]), (3, .ptr 3 0 0), (4, .ptr 4 0 0)]) (H1 := [(3, .cells 170 1 [[.nils]] true), (4, .cells 211 1 [[.mp 8]] false), (8, .mset [])]) (Qj (.cs (.cons rfl (XS rfl rfl (.inl rfl)) (.cs (.cs (.nil))))) (.keep (rfl) rfl (.keep (rfl) rfl (.keep (rfl) rfl (.nil)))) (fun i h => by cases h)) (Weak.trans (F1 := [(10, .fn (.func 208) [.rp [.rs 4 (r.map cPl)]]), (1, .rp [.rs 4 (r.map cPl)]), (3, .ptr 3 0 0), (4, .ptr 4 0 0)]) (H1 := [(3, .cells 170 1 [[.nils]] true), (4, .cells 211 1 [[.mp 1008]] false), (1008, .mset [])]) (Weak.trans (F1 := [(10, .fn (.func 208) [.rp [.rs 4 (r.map cPl)]]), (1, .rp [.rs 4 (r.map cPl)]), (3, .ptr 3 0 0), (4, .ptr 4 0 0)]) (QH (i := 8) (i' := 1008) (k := 4) rfl rfl (.cons rfl (.same _) (.cons rfl (.same _) (.cons rfl (.same _) (.cons rfl (.same _) (.nil))))) (by decide) rfl .mp) (Qj (.cs (.cs (.cs (.cs (.nil))))) (.keep (rfl) rfl (.keep (rfl) rfl (.keep (rfl) rfl (.nil)))) (fun i h => by cases h))) (Weak.trans (F1 := [(10, .fn (.func 208) [.rp [.rs 4 (r.map cPl)]]), (1, .rp [.rs 4 (r.map cPl)]), (3, .ptr 1003 0 0), (4, .ptr 1004 0 0)]) (H1 := [(1003, .cells 170 1 [[.nils]] true), (1004, .cells 211 1 [[.mp 1008]] false), (1008, .mset [])]) (Weak.trans (F1 := [(10, .fn (.func 208) [.rp [.rs 4 (r.map cPl)]]), (1, .rp [.rs 4 (r.map cPl)]), (3, .ptr 1003 0 0), (4, .ptr 4 0 0)]) (H1 := [(1003, .cells 170 1 [[.nils]] true), (4, .cells 211 1 [[.mp 1008]] false), (1008, .mset [])]) (QQ (i := 3) (i' := 1003) (F1 := [(10, .fn (.func 208) [.rp [.rs 4 (r.map cPl)]]), (1, .rp [.rs 4 (r.map cPl)]), (3, .ptr 3 0 0), (4, .ptr 4 0 0)]) (H1 := [(3, .cells 170 1 [[.nils]] true), (4, .cells 211 1 [[.mp 1008]] false), (1008, .mset [])]) (.cs (.cs (.cs (.cs (.nil))))) (.keep (rfl) rfl (.keep (rfl) rfl (.keep (rfl) rfl (.nil)))) (fun i h => by cases h) rfl rfl (.cons rfl (.same _) (.cons rfl (.same _) (.cons rfl (.ptr _ _) (.cons rfl (.same _) (.nil))))) (.cs (.cs (.cs (.cs (.nil))))) (.keep (rfl) rfl (.keep (rfl) rfl (.keep (rfl) rfl (.nil)))) (fun i h => by cases h)) (QQ (i := 4) (i' := 1004) (F1 := [(10, .fn (.func 208) [.rp [.rs 4 (r.map cPl)]]), (1, .rp [.rs 4 (r.map cPl)]), (3, .ptr 1003 0 0), (4, .ptr 4 0 0)]) (H1 := [(1003, .cells 170 1 [[.nils]] true), (4, .cells 211 1 [[.mp 1008]] false), (1008, .mset [])]) (.cs (.cs (.cs (.cs (.nil))))) (.keep (rfl) rfl (.keep (rfl) rfl (.keep (rfl) rfl (.nil)))) (fun i h => by cases h) rfl rfl (.cons rfl (.same _) (.cons rfl (.same _) (.cons rfl (.same _) (.cons rfl (.ptr _ _) (.nil))))) (.cs (.cs (.cs (.cs (.nil))))) (.keep (rfl) rfl (.keep (rfl) rfl (.keep (rfl) rfl (.nil)))) (fun i h => by cases h))) (Weak.trans (F1 := [(10, .fn (.func 208) [.rp [.rs 4 (r.map cPl)]]), (1, .rp [.rs 4 (r.map cPl)]), (3, .ptr 1003 0 0), (4, .ptr 1004 0 0)]) (weak_seed (i := 901) (k := 1003) (e := 170) (z := 1) (e2 := 174) (z2 := 4) (fl := true) (fl2 := true) rfl rfl) (Qj (.cs (.cs (.cs (.cs (.nil))))) (.keep (rfl) rfl (.keep (rfl) rfl (.keep (rfl) rfl (.keep (rfl) rfl (.nil))))) (fun i h => by cases h)))))) (aw_rfunc 900 [(1003, .cells 170 1 [[.sl 901 0 (([] : List Pt)).length]] false), (901, .cells 174 4 ((([] : List Pt)).map cPt) true), (1004, .cells 211 1 [[.mp 1008]] false), (1008, .mset ((([] : List Pt)).map ptK))] [(1003, .cells 170 1 [[.sl 903 0 (cornS r).length]] false), (903, .cells 174 4 ((cornS r).map cPt) true), (1004, .cells 211 1 [[.mp 1008]] false), (1008, .mset ((cornS r).map ptK)), (901, .dead)] (.inl ⟨rfl, rfl⟩) rfl (by kernel_rfl) rfl rfl rfl (.cons rfl (.cons rfl (.cons rfl (.cons rfl (.nil))))) rfl rfl rfl rfl (fun r0 hrec => ⟨r0, (by rw [hrec.state]; intro h; cases h), hrec.pending, vc208 r hr hok r0 hrec⟩) (QI (Qd (Qb ?_))))))))
  refine Qc (Qf 2 rfl (Qa fun _ => Qd (Ql ?_)))
  exact Q5 rfl (QK (f := cPt) (xs := cornS r) rfl rfl rfl (fun _ => rfl)) .nil
def mcv163 : MC := (.seq (.reg [oN 2 (.box 90 4 (.t 0)) [], oN 3 (.mv (.c (.bool false))) []] false) (.seq (.reg [oD 4 1 1 [], oN 5 (.mkfn (.func 165) [(.t 2)]) [], oN 6 (.call 164 [(.t 4), (.t 5)]) [0, 1], oN 7 (.un .not (.t 6)) [2], oM 3 7 [3, 2, 0, 1, 2, 3]] false) .ret))
theorem mcOkv163 : (match Tryz.f163.body with | some c => Q2 Tryz.prog 8 c | none => none) = some mcv163 := by kernel_rfl
theorem vc163 (l : List Pt) (hl : l.length ≤ 2000000) (p : Pl) : FC Tryz.prog 163 [.agg (cPl p), .rp [.rs 4 (l.map cPt)]] [] (.bool (nonS l p)) [] false := by
  refine Qs (nt := 8) Tryz.func163 rfl rfl mcOkv163 (nL rfl) ?_
  delta mcv163
  refine Qb (Qc (Qf 2 rfl (Qa fun _ => Qd (Qb (Xm (F0 := [(1, .rp [.rs 4 (l.map cPt)]), (2, .rp (cPl p))]) (H0 := []) (Qj (.cs (.cons rfl (XS rfl rfl (.inl rfl)) (.nil))) (.nil) (fun i h => by cases h)) (Qc (Qf 2 rfl (Qi [] rfl rfl (vcC_ins p l (by omega)) (.cons (Qg rfl) (.cons (Qg rfl) (.nil))) rfl ?_))))))))
  refine Qf 2 rfl (Qa fun _ => Qd (Ql ?_))
  exact Qk rfl rfl rfl (.inr rfl)
def mcv188 : MC := (.seq (.reg [oN 4 (.mv (.c (.int .i64 0))) []] false) (.seq (.seq (.reg [oM 6 0 [], oN 7 (.len (.t 6)) [0], oN 8 (.mv (.c (.int .i64 0))) []] false) (.block 0 (.loop (.seq (.reg [oN 9 (.bin .lss (.t 8) (.t 7)) []] false) (.seq (.cond (.t 9) .skip (.exit 0)) (.seq (.block 1 (.seq (.reg [oM 10 8 [], oM 5 10 [0, 0]] false) (.seq (.reg [oM 11 1 [], oM 12 0 [], oM 13 5 [], oN 14 (.ixsl 4 (.t 12) (.t 13)) [1, 2], oN 15 (.ld true 4 (.t 14)) [3], oN 16 (.callv (.t 11) [(.t 15)]) [0, 4]] false) (.cond (.t 16) (.seq (.reg [oM 17 5 [], oM 4 17 [0, 0]] false) .ret) .skip)))) (.reg [oN 18 (.bin .add (.t 8) (.c (.int .i64 1))) [], oM 8 18 [0]] false))))))) (.seq (.reg [oN 4 (.mv (.c (.int .i64 (-1)))) []] false) .ret)))
theorem mcOkv188 : (match Tryz.f188.body with | some c => Q2 Tryz.prog 19 c | none => none) = some mcv188 := by kernel_rfl
theorem vcI_non (l : List Pt) (hl : l.length ≤ 2000000) (xs : List Pl) (hxn : xs.length ≤ 4611686018427387904) : FC Tryz.prog 188 [.rs 4 (xs.map cPl), (.fn (.func 163) [.rp [.rs 4 (l.map cPt)]])] [] (.int .i64 (Xw (nonS l) xs 0)) [] false := by
  refine Qs (nt := 19) Tryz.func188 rfl rfl mcOkv188 (nL rfl) ?_
  delta mcv188
  refine Qb (Qc (Qe rfl rfl (Qa fun _ => Qd (Qb (Qb (Qc (Qe rfl rfl (Qq rfl rfl ?_))))))))
  refine Qe rfl rfl (Qa fun _ => Qd (Qm ?_))
  refine QC (α := Nat) (fun k => xs.length - k) (fun k => [(0, .rs 4 (xs.map cPl)), (1, (.fn (.func 163) [.rp [.rs 4 (l.map cPt)]])), (6, .rs 4 (xs.map cPl)), (7, iv (xs.length : Int)), (8, iv (((k) : Nat) : Int))]) (fun k => []) (fun k => k ≤ xs.length ∧ Xw (nonS l) (xs.drop k) k = Xw (nonS l) xs 0) 0 (⟨by omega, rfl⟩)
    (Qj (.cs (.cs (.cs (.cs (.cs (.nil)))))) (.nil) (fun i h => by cases h)) ?_
  rintro k ⟨hk, hinv⟩
  refine Qb (Qc (QJ rfl rfl rfl (Qa fun _ => Qd (Qb (Qh rfl (fun h9 => ?_) (fun h9 => ?_))))))
  · replace h9 := of_decide_eq_true h9
    refine Qn (Qd (Qb (Qm (Qb (Qc (Qf 2 rfl (Qa fun _ => Qd (Qb ?_))))))))
    refine Qc (Qf 3 rfl ?_)
    obtain ⟨x, hxk, hxm⟩ := Qy (L := xs) (k := k) (by omega)
    rw [JM hxk] at hinv
    
    refine Qt (f := cPl) (y := x) rfl rfl rfl (by omega) hxk (QR (cs := cPl x) rfl rfl (nL rfl) rfl (X5 [] rfl rfl (by kernel_rfl) rfl (fc_up (vc163 l hl x)) (.cons (Qg rfl) (.cons (Qg rfl) (.nil))) .nil rfl rfl rfl ?_))
    cases h16 : (nonS l) x
    · skip
      refine Qa fun _ => Qd (Qh rfl (fun h => by cases h) (fun _ => ?_))
      refine Qn (QI (Qd (Qc (Qx rfl rfl rfl (by omega) (Qe rfl rfl (Qa fun _ => Qd ?_))))))
      rw [h16] at hinv
      exact ⟨k + 1, ⟨by omega, hinv⟩, by omega, Qj (.cs (.cs (.cs (.cs (.cs (.nil)))))) (.nil) (fun i h => by cases h)⟩
    · skip
      refine Qa fun _ => Qd (Qh rfl (fun _ => ?_) (fun h => by cases h))
      refine Qb (Qc (Qf 2 rfl (Qa fun _ => Qd (Ql (QL (Q1 (Q1 (QL ?_))))))))
      refine Q1 ?_
      rw [h16] at hinv
      rw [← hinv]
      exact Qk rfl rfl rfl (.inr rfl)
  · replace h9 := of_decide_eq_false h9
    refine Q3 (QB (QB (QA (Qd (Qb (Qc (Qe rfl rfl (Qa fun _ => Qd ?_))))))))
    refine Ql ?_
    rw [J3 (by omega)] at hinv
    rw [← hinv]
    exact Qk rfl rfl rfl (.inr rfl)
def mcv162 : MC := (.seq (.reg [oN 4 (.mv (.c (.bool false))) []] false) (.seq (.reg [oM 5 0 [], oM 6 1 [], oN 7 (.call 188 [(.t 5), (.t 6)]) [0, 1], oN 8 (.bin .geq (.t 7) (.c (.int .i64 0))) [2], oM 4 8 [3, 2, 0, 1, 2, 3]] false) .ret))
theorem mcOkv162 : (match Tryz.f162.body with | some c => Q2 Tryz.prog 9 c | none => none) = some mcv162 := by kernel_rfl
theorem vcC_non (l : List Pt) (hl : l.length ≤ 2000000) (xs : List Pl) (hxn : xs.length ≤ 4611686018427387904) : FC Tryz.prog 162 [.rs 4 (xs.map cPl), (.fn (.func 163) [.rp [.rs 4 (l.map cPt)]])] [] (.bool (xs.any (nonS l))) [] false := by
  refine Qs (nt := 9) Tryz.func162 rfl rfl mcOkv162 (nL rfl) ?_
  delta mcv162
  refine Qb (Qc (Qe rfl rfl (Qa fun _ => Qd (Qb (Qc (Qf 2 rfl (Qi [] rfl rfl (vcI_non l hl xs hxn) (.cons (Qg rfl) (.cons (Qg rfl) (.nil))) rfl (XM rfl rfl rfl ?_))))))))
  refine Qe rfl rfl (Qa fun _ => Qd (Ql ?_))
  rw [← Jt]
  exact Qk rfl rfl rfl (.inr rfl)
def mcv135 : MC := (.seq (.reg [oN 2 (.mv (.c (.bool false))) []] false) (.seq (.reg [oM 4 0 [], oN 5 (.call 161 [(.t 4)]) [0], oN 3 (.alloc 170 1 [.nils]) [], ⟨none, (.st 1 (.t 3) (.t 5)), none, [2, 1, 1, 0, 1, 2]⟩] false) (.seq (.reg [oM 6 0 [], oN 7 (.mkfn (.func 163) [(.t 3)]) [], oN 8 (.call 162 [(.t 6), (.t 7)]) [0, 1], oN 9 (.un .not (.t 8)) [2], oM 2 9 [3, 2, 0, 1, 2, 3]] false) .ret)))
theorem mcOkv135 : (match Tryz.f135.body with | some c => Q2 Tryz.prog 10 c | none => none) = some mcv135 := by kernel_rfl
theorem vc135 (r : List Pl) (hr : r.length ≤ 110) (hok : okTop r = true) : FC Tryz.prog 135 [.rs 4 (r.map cPl)] [] (.bool (fullS r)) [] false := by
  have hcl := corn_len hr
  refine Qs (nt := 10) Tryz.func135 rfl rfl mcOkv135 (nL rfl) ?_
  delta mcv135
  refine Qb (Qc (Qe rfl rfl (Qa fun _ => Qd (Qb (Qc (Qe rfl rfl (Qi [] rfl rfl (vc161 r hr hok) (.cons (Qg rfl) (.nil)) rfl (QF rfl rfl rfl ?_))))))))
  refine Q0 rfl rfl rfl rfl rfl rfl rfl (nL rfl) rfl rfl (Qa fun _ => Qd (Qb (Xm (F0 := [(0, .rs 4 (r.map cPl)), (3, .rp [.rs 4 ((cornS r).map cPt)])]) (H0 := []) (Qj (.cs (.cons rfl (XS rfl rfl (.inl rfl)) (.nil))) (.nil) (fun i h => by cases h)) (Qc (Qf 2 rfl (Qi [] rfl rfl (vcC_non (cornS r) (by omega) r (by omega)) (.cons (Qg rfl) (.cons (Qg rfl) (.nil))) rfl (Qf 2 rfl (Qa fun _ => ?_))))))))
  refine Qd (Ql ?_)
  exact Qk rfl rfl rfl (.inr rfl)
end Go.Proofs.YthfhaoogcpfboaaGreat

/-! Walks: VP. -/
namespace Go.Proofs.YthfhaoogcpfboaaGreat
open Go.RowKit
set_option maxRecDepth 100000
set_option linter.unusedVariables false
open Go.Shelf Go.Lib
def renGr : Go.Shelf.Ren := { f := fun _ => 184, t := fun n => if n = 22 then 85 else if n = 25 then 90 else n, g := fun n => n }
theorem laysGr : Lays8.n4 Tryz.prog renGr := by
  constructor
  case f4 => exact ⟨Tryz.f184.name, by kernel_rfl, by kernel_rfl⟩
  all_goals first | kernel_rfl | (intro _; kernel_rfl)
theorem ty90 : ∃ i z, Tryz.prog.info? 90 = some i ∧ i.zero = some z ∧ i.size = 4 ∧ i.bytes = 32 ∧ z.cells.size = 4 := by
  have h : (match Tryz.prog.info? 90 with | some i => (match i.zero with | some z => decide (i.size = 4 ∧ i.bytes = 32 ∧ z.cells.size = 4) | none => false) | none => false) = true := by kernel_rfl
  split at h
  · rename_i i hi
    split at h
    · rename_i z hz
      have h := of_decide_eq_true h
      exact ⟨i, z, hi, hz, h.1, h.2.1, h.2.2⟩
    · cases h
  · cases h
/-- Room for a list to come. -/
theorem vc184 (n : Nat) (hn : 1 ≤ n ∧ n ≤ 1000) : FC Tryz.prog 184 [.nils, iv (n : Int)] [] (.sl 1005 0 0) [(1005, .cells 90 4 [] true)] false := fun w S ρ cargs hH hv => by
  obtain ⟨i0, z0, hi, hz, h1, h2, h3⟩ := ty90
  have e : cargs = #[.slice none 0 0, .int .i64 (n : Int)] := by
    obtain ⟨L⟩ := cargs
    have h1 := hv.1
    have hv0 := hv.2 0 _ rfl
    have hv1 := hv.2 1 _ rfl
    match L, h1, hv0, hv1 with
    | [x, y], _, hv0, hv1 =>
      have e0 : x = .slice none 0 0 := VR.nils_inv hv0
      have e1 : y = .int .i64 (n : Int) := VR.int_inv hv1
      rw [e0, e1]
  rw [e]
  have hb : (0 + n) * i0.bytes ≤ 140737488355328 := by rw [h2]; omega
  have hg := Any8.slices_Grow_grow laysGr i0 z0 hi hz (by omega) none 0 0 n [] w (Nat.le_refl _) (by omega) hb (by omega) (by simp) (fun _ => rfl) (fun a h => by cases h)
  refine hg.mono fun en w' ⟨he, hw⟩ => ?_
  have hge := grownCap_ge w (0 + n) 0 90
  have hle := grownCap_le_maxLen w (0 + n) 0 90 (by unfold maxLen; omega)
  replace he : en = .returned (.slice (some ⟨w.heap.size, 0, none⟩) 0 (grownCap w (0 + n) 0 90)) := he
  replace hw : w' = w.drew.alloc (.cells (([] : List Value).toArray ++ Builtin.zeroCells z0.cells (0 + n - 0) ++ Builtin.zeroCells z0.cells (grownCap w (0 + n) 0 90 - (0 + n))) 90) := hw
  generalize grownCap w (0 + n) 0 90 = G at he hw hge hle
  have hsz : (([] : List Value).toArray ++ Builtin.zeroCells z0.cells (0 + n - 0) ++ Builtin.zeroCells z0.cells (G - (0 + n))).size = G * 4 := by
    simp only [Array.size_append, size_zeroCells, h3, List.size_toArray, List.length_nil]; omega
  generalize (([] : List Value).toArray ++ Builtin.zeroCells z0.cells (0 + n - 0) ++ Builtin.zeroCells z0.cells (G - (0 + n))) = C at hw hsz
  subst hw
  have hnew : (w.drew.alloc (.cells C 90)).heap[w.heap.size]? = some (.cells C 90 (0, 0)) := heap_alloc_new w.drew _
  have hsize : (w.drew.alloc (.cells C 90)).heap.size = w.heap.size + 1 := by show (w.heap.push _).size = _; simp
  have hget : ∀ i, i ≠ 1005 → get ([(1005, .cells 90 4 [] true)] : Hp) i = none := fun i hi => by simp only [get]; rw [if_neg (Ne.symm hi)]
  refine ⟨_, fun _ => False, fun i => if i = 1005 then some (some w.heap.size, 4, G) else none, he, .sl 1005 0 0 w.heap.size 4 G G (if_pos rfl) (by omega) (Nat.zero_le _), ⟨fun b hb => hb.elim, fun i hi => ?_, ⟨fun i o _ ho => ?_, fun i j oi oj b z z' c c' _ _ hne hi hj => ?_⟩⟩, ⟨rfl, rfl, rfl, by rw [hsize]; omega, fun k hk _ => Below.heap_alloc w.drew _ k hk⟩, fun b hb => hb.elim, fun b hb => ?_, fun i hi => absurd rfl hi, fun i hi => absurd rfl hi⟩
  · by_cases h : i = 1005
    · subst h; simp [get] at hi
    · simp [h]
  · by_cases h : i = 1005
    · subst h
      simp [get] at ho
      subst ho
      exact ⟨some w.heap.size, 4, G, if_pos rfl, rfl, fun h => h, hle, C, hnew, hsz, Nat.zero_le _, fun j el h => by simp at h, fun j el o v h => by simp at h⟩
    · rw [hget i h] at ho; cases ho
  · have h1 : i = 1005 := Decidable.byContradiction fun h => by rw [hget i h] at hi; cases hi
    have h2 : j = 1005 := Decidable.byContradiction fun h => by rw [hget j h] at hj; cases hj
    exact absurd (h1.trans h2.symm) hne
  · obtain ⟨i, ob, z, cap, _, h1, _, h2⟩ := hb
    by_cases h : i = 1005
    · subst h; simp at h2; exact .inr (by omega)
    · rw [hget i h] at h1; cases h1
abbrev cR (c : List Pl) : List AV := [.rs 4 (c.map cPl)]
theorem flat_succ {ls : List (List Pl)} {k : Nat} {c : List Pl} (h : ls[k]? = some c) : (ls.take (k + 1)).flatten = (ls.take k).flatten ++ c := by rw [QX h]; simp
theorem flat_le {ls : List (List Pl)} (k : Nat) : ((ls.take k).flatten).length ≤ ls.flatten.length := by
  have : ls.flatten = (ls.take k).flatten ++ (ls.drop k).flatten := by rw [← List.flatten_append, List.take_append_drop]
  rw [this, List.length_append]; omega
theorem addNW2 {a b : Nat} (h : a + b ≤ 1000000) : W ((a : Int) + (b : Int)) = ((a + b : Nat) : Int) := by rw [W_eq (by omega)]; omega
def norms : List V3 := [⟨1, 0, 0⟩, ⟨-1, 0, 0⟩, ⟨0, 1, 0⟩, ⟨0, -1, 0⟩, ⟨0, 0, 1⟩, ⟨0, 0, -1⟩]
def wsP (v : V3) : Pl := ⟨v, 24⟩
/-- The region that cells have in common. -/
def ofS (ls : List (List Pl)) : List Pl := ls.flatten ++ norms.map wsP
theorem ws_succ {l : List Pl} {k : Nat} {v : V3} (h : norms[k]? = some v) : l ++ (norms.take (k + 1)).map wsP = (l ++ (norms.take k).map wsP) ++ [wsP v] := by rw [QX h]; simp
def mcv160 : MC := (.seq (.reg [oN 2 (.mv (.c .nils)) []] false) (.seq (.reg [oN 3 (.mv (.c (.int .i64 0))) []] false) (.seq (.seq (.reg [oM 9 0 [], oN 10 (.len (.t 9)) [0], oN 11 (.mv (.c (.int .i64 0))) []] false) (.block 0 (.loop (.seq (.reg [oN 12 (.bin .lss (.t 11) (.t 10)) []] false) (.seq (.cond (.t 12) .skip (.exit 0)) (.seq (.block 1 (.seq (.reg [oN 13 (.ixsl 1 (.t 9) (.t 11)) [], oD 14 1 13 [0], oM 5 14 [1, 0, 1]] false) (.seq (.reg [oM 15 3 [], oM 16 5 [], oN 17 (.len (.t 16)) [1], oN 18 (.bin .add (.t 15) (.t 17)) [0, 2], oM 3 18 [3, 0, 1, 2, 3]] false) (.seq (.reg [oM 19 3 [], oN 20 (.bin .lss (.t 19) (.c (.int .i64 0))) [0]] false) (.cond (.t 20) (.reg [oN 21 (.mkif 9 (.c (.str (Qu [108, 101, 110, 32, 111, 117, 116, 32, 111, 102, 32, 114, 97, 110, 103, 101])))) [], ⟨none, .bot, none, [0]⟩] false) .skip))))) (.reg [oN 22 (.bin .add (.t 11) (.c (.int .i64 1))) [], oM 11 22 [0]] false))))))) (.seq (.reg [oM 23 3 [], oN 24 (.call 184 [(.c .nils), (.t 23)]) [0], oM 6 24 [1, 1, 0, 1]] false) (.seq (.seq (.reg [oM 25 0 [], oN 26 (.len (.t 25)) [0], oN 27 (.mv (.c (.int .i64 0))) []] false) (.block 2 (.loop (.seq (.reg [oN 28 (.bin .lss (.t 27) (.t 26)) []] false) (.seq (.cond (.t 28) .skip (.exit 2)) (.seq (.block 3 (.seq (.reg [oN 29 (.ixsl 1 (.t 25) (.t 27)) [], oD 30 1 29 [0], oM 8 30 [1, 0, 1]] false) (.reg [oM 31 6 [], oM 32 8 [], oN 33 (.app 90 4 32 [(.int .i64 0), (.int .i64 0), (.int .i64 0), (.int .i64 0)] (.t 31) (.t 32)) [0, 1], oM 6 33 [2, 2, 0, 1, 2]] false))) (.reg [oN 34 (.bin .add (.t 27) (.c (.int .i64 1))) [], oM 27 34 [0]] false))))))) (.seq (.reg [oM 35 6 [], oM 2 35 [0, 0]] false) .ret))))))
theorem mcOkv160 : (match Tryz.f160.body with | some c => Q2 Tryz.prog 36 c | none => none) = some mcv160 := by kernel_rfl
theorem vc160 (ls : List (List Pl)) (hn : 1 ≤ ls.flatten.length ∧ ls.flatten.length ≤ 1000) (hl : ls.length ≤ 100) : FC Tryz.prog 160 [.rs 1 (ls.map cR)] [] (.sl 1005 0 ls.flatten.length) [(1005, .cells 90 4 (ls.flatten.map cPl) true)] false := by
  refine Qs (nt := 36) Tryz.func160 rfl rfl mcOkv160 (nL rfl) ?_
  delta mcv160
  refine Qb (Qc (Qe rfl rfl (Qa fun _ => Qd (Qb (Qc (Qe rfl rfl (Qa fun _ => Qd ?_)))))))
  refine Qb (Qb (Qc (Qe rfl rfl (Qq rfl rfl (Qe rfl rfl (Qa fun _ => Qd (Qm ?_)))))))
  refine QC (α := Nat) (fun k => ls.length - k) (fun k => [(0, .rs 1 (ls.map cR)), (9, .rs 1 (ls.map cR)), (10, iv (ls.length : Int)), (11, iv (((k) : Nat) : Int)), (3, iv ((((ls.take (k)).flatten).length : Nat) : Int))]) (fun k => []) (fun k => k ≤ ls.length) 0 (by omega)
    (Qj (.cs (.cs (.cs (.cs (.cs (.nil)))))) (.nil) (fun i h => by cases h)) ?_
  intro k hk
  refine Qb (Qc (QJ rfl rfl rfl (Qa fun _ => Qd (Qb (Qh rfl (fun h12 => ?_) (fun h12 => ?_))))))
  · replace h12 := of_decide_eq_true h12
    refine Qn (Qd (Qb (Qm (Qb (Qc ?_)))))
    obtain ⟨c, hck, hcm⟩ := Qy (L := ls) (k := k) (by omega)
    have hfl := flat_le (ls := ls) (k + 1)
    have hfs : ((ls.take (k + 1)).flatten).length = ((ls.take k).flatten).length + c.length := by rw [flat_succ hck, List.length_append]
    refine Qt (f := cR) (y := c) rfl rfl rfl (by omega) hck (Qf 2 rfl (Qa fun _ => Qd (Qb (Qc (Qf 2 rfl (Qq rfl rfl (Xi (c := ((((ls.take (k + 1)).flatten).length : Nat) : Int)) rfl rfl rfl (by rw [hfs]; exact addNW2 (by omega)) (Qe rfl rfl ?_))))))))
    refine Qa fun _ => Qd (Qb (Qc (Qe rfl rfl (Qz rfl rfl rfl rfl (by omega) (Qa fun _ => Qd (Qh rfl (fun h => by cases h) (fun _ => ?_)))))))
    refine Qn (QI (Qd (Qc (Qx rfl rfl rfl (by omega) (Qe rfl rfl (Qa fun _ => Qd ?_))))))
    exact ⟨k + 1, by omega, by omega, Qj (.cs (.cs (.cs (.cs (.cs (.nil)))))) (.nil) (fun i h => by cases h)⟩
  · replace h12 := of_decide_eq_false h12
    refine Q3 (QB (QB (QA (Qd (Qb ?_)))))
    obtain rfl : k = ls.length := by omega
    have hfa : ls.take ls.length = ls := List.take_of_length_le (Nat.le_refl _)
    refine Qc (Qe rfl rfl ?_)
    rw [hfa]
    refine Qi [] rfl rfl (vc184 ls.flatten.length hn) (.cons (Qg rfl) (.cons (Qg rfl) (.nil))) rfl (Qe rfl rfl (Qa fun _ => Qd (Qb (Qb (Qc (Qe rfl rfl (Qq rfl rfl (Qe rfl rfl ?_))))))))
    refine Qa fun _ => Qd (Qm ?_)
    refine QC (α := Nat) (fun k => ls.length - k) (fun k => [(25, .rs 1 (ls.map cR)), (26, iv (ls.length : Int)), (27, iv (((k) : Nat) : Int)), (6, .sl 1005 0 ((ls.take (k)).flatten).length)]) (fun k => [(1005, .cells 90 4 (((ls.take (k)).flatten).map cPl) true)]) (fun k => k ≤ ls.length) 0 (by omega)
      (Qj (.cs (.cs (.cs (.cs (.nil))))) (.keep (rfl) rfl (.nil)) (fun i h => by cases h)) ?_
    intro k hk
    refine Qb (Qc (QJ rfl rfl rfl (Qa fun _ => Qd (Qb (Qh rfl (fun h28 => ?_) (fun h28 => ?_))))))
    · replace h28 := of_decide_eq_true h28
      refine Qn (Qd (Qb (Qm (Qb (Qc ?_)))))
      obtain ⟨c, hck, hcm⟩ := Qy (L := ls) (k := k) (by omega)
      have hfl := flat_le (ls := ls) (k + 1)
      have hfs : ((ls.take (k + 1)).flatten).length = ((ls.take k).flatten).length + c.length := by rw [flat_succ hck, List.length_append]
      refine Qt (f := cR) (y := c) rfl rfl rfl (by omega) hck (Qf 2 rfl (Qa fun _ => Qd (Qc (Qf 2 rfl (rs_app_mm (f := cPl) (xs := (ls.take k).flatten) (ys := c) (m := c.length) (rd := []) rfl rfl rfl rfl rfl rfl rfl (by simp) (fun _ => rfl) rfl rfl (by omega) (by omega) (fun _ => rfl) (Qe rfl rfl (Qa fun _ => QI ?_)))))))
      refine Qd (Qc (Qx rfl rfl rfl (by omega) (Qe rfl rfl (Qa fun _ => Qd ?_))))
      exact ⟨k + 1, by omega, by omega, by rw [hfs, flat_succ hck]; exact QQ (i := 33) (i' := 1005) (F1 := [(25, .rs 1 (ls.map cR)), (26, iv (ls.length : Int)), (27, iv (((k + 1) : Nat) : Int)), (6, .sl 33 0 (((ls.take k).flatten).length + c.length))]) (H1 := [(33, .cells 90 4 (((ls.take k).flatten ++ c).map cPl) true)]) (.cs (.cs (.cs (.cs (.nil))))) (.keep (rfl) rfl (.nil)) (fun i h => by cases h) rfl rfl (.cons rfl (.same _) (.cons rfl (.same _) (.cons rfl (.same _) (.cons rfl (.sl _ _) (.nil))))) (.cs (.cs (.cs (.cs (.nil))))) (.keep (rfl) rfl (.nil)) (fun i h => by cases h)⟩
    · replace h28 := of_decide_eq_false h28
      refine Q3 (QB (QB (QA (Qd (Qb (Qc (Qf 2 rfl (Qa fun _ => Qd ?_))))))))
      refine Ql ?_
      obtain rfl : k = ls.length := by omega
      rw [List.take_of_length_le (Nat.le_refl _)]
      exact Q5 rfl (Q6 rfl (.inr rfl)) (.keep rfl rfl (XR (fun _ => rfl) _) .nil)
def mcv134 : MC := (.seq (.reg [oN 2 (.mv (.c .nils)) []] false) (.seq (.reg [oM 6 0 [], oN 7 (.call 160 [(.t 6)]) [0], oM 3 7 [1, 1, 0, 1]] false) (.seq (.seq (.reg [oN 8 (.build [(.int .i64 0), (.int .i64 0), (.int .i64 0)] [(0, (1, (.c (.int .i64 1))))]) [], oN 9 (.build [(.int .i64 0), (.int .i64 0), (.int .i64 0)] [(0, (1, (.c (.int .i64 (-1)))))]) [], oN 10 (.build [(.int .i64 0), (.int .i64 0), (.int .i64 0)] [(1, (1, (.c (.int .i64 1))))]) [], oN 11 (.build [(.int .i64 0), (.int .i64 0), (.int .i64 0)] [(1, (1, (.c (.int .i64 (-1)))))]) [], oN 12 (.build [(.int .i64 0), (.int .i64 0), (.int .i64 0)] [(2, (1, (.c (.int .i64 1))))]) [], oN 13 (.build [(.int .i64 0), (.int .i64 0), (.int .i64 0)] [(2, (1, (.c (.int .i64 (-1)))))]) [], oN 14 (.bslice 88 3 [(.int .i64 0), (.int .i64 0), (.int .i64 0)] 6 [(0, (.t 8)), (1, (.t 9)), (2, (.t 10)), (3, (.t 11)), (4, (.t 12)), (5, (.t 13))]) [0, 1, 2, 3, 4, 5], oN 15 (.len (.t 14)) [6], oN 16 (.mv (.c (.int .i64 0))) []] false) (.block 0 (.loop (.seq (.reg [oN 17 (.bin .lss (.t 16) (.t 15)) []] false) (.seq (.cond (.t 17) .skip (.exit 0)) (.seq (.block 1 (.seq (.reg [oN 18 (.ixsl 3 (.t 14) (.t 16)) [], oN 19 (.ld true 3 (.t 18)) [0], oN 5 (.alloc 88 3 [(.int .i64 0), (.int .i64 0), (.int .i64 0)]) [], ⟨none, (.st 3 (.t 5) (.t 19)), none, [2, 1, 0, 1, 2]⟩] false) (.reg [oM 20 3 [], oN 21 (.ld true 3 (.t 5)) [], oN 22 (.build [(.int .i64 0), (.int .i64 0), (.int .i64 0), (.int .i64 0)] [(0, (3, (.t 21))), (3, (1, (.c (.int .i64 24))))]) [1], oN 23 (.bslice 90 4 [(.int .i64 0), (.int .i64 0), (.int .i64 0), (.int .i64 0)] 1 [(0, (.t 22))]) [2], oN 24 (.app 90 4 32 [(.int .i64 0), (.int .i64 0), (.int .i64 0), (.int .i64 0)] (.t 20) (.t 23)) [0, 3], oM 3 24 [4, 4, 0, 1, 2, 3, 4]] false))) (.reg [oN 25 (.bin .add (.t 16) (.c (.int .i64 1))) [], oM 16 25 [0]] false))))))) (.seq (.reg [oM 26 3 [], oM 2 26 [0, 0]] false) .ret))))
theorem mcOkv134 : (match Tryz.f134.body with | some c => Q2 Tryz.prog 27 c | none => none) = some mcv134 := by kernel_rfl
theorem vc134 (ls : List (List Pl)) (hn : 1 ≤ ls.flatten.length ∧ ls.flatten.length ≤ 1000) (hl : ls.length ≤ 100) : FC Tryz.prog 134 [.rs 1 (ls.map cR)] [] (.rs 4 ((ofS ls).map cPl)) [] false := by
  refine Qs (nt := 27) Tryz.func134 rfl rfl mcOkv134 (nL rfl) ?_
  delta mcv134
  refine Qb (Qc (Qe rfl rfl (Qa fun _ => Qd (Qb (Qc (Qe rfl rfl (Qi [] rfl rfl (vc160 ls hn hl) (.cons (Qg rfl) (.nil)) rfl (Qe rfl rfl ?_))))))))
  refine Qa fun _ => Qd (Qb (Qb (Qc (Qf 6 rfl (Qv (l := (norms).flatMap cV) (els := (norms).map cV) (fl := true) rfl (by kernel_rfl) rfl rfl (by kernel_rfl) (by kernel_rfl) (Xu rfl rfl (Qe rfl rfl (Qa fun _ => ?_))))))))
  refine Qd (Qm ?_)
  refine QC (α := Nat) (fun k => 6 - k) (fun k => [(3, .sl 1005 0 (ls.flatten.length + (k))), (14, .rs 3 (norms.map cV)), (15, iv ((6 : Nat) : Int)), (16, iv (((k) : Nat) : Int))]) (fun k => [(1005, .cells 90 4 ((ls.flatten ++ (norms.take (k)).map wsP).map cPl) true)]) (fun k => k ≤ 6) 0 (by omega)
    (Qj (.cs (.cons rfl (QK (f := cV) (xs := norms) rfl rfl rfl (fun _ => rfl)) (.cs (.cs (.nil))))) (.keep (by simp [get]) rfl (.nil)) (fun i h => by cases h)) ?_
  intro k hk
  refine Qb (Qc (QJ rfl rfl rfl (Qa fun _ => Qd (Qb (Qh rfl (fun h17 => ?_) (fun h17 => ?_))))))
  · replace h17 := of_decide_eq_true h17
    refine Qn (Qd (Qb (Qm (Qb (Qc ?_)))))
    obtain ⟨v, hvk, hvm⟩ := Qy (L := norms) (k := k) (by show k < 6; omega)
    refine Qt (f := cV) (y := v) rfl rfl rfl (by omega) hvk (QR (cs := cV v) rfl rfl (nL rfl) rfl (QF rfl rfl rfl (Q0 rfl rfl rfl rfl rfl rfl rfl (nL rfl) rfl rfl (Qa fun _ => Qd (Qc (Qe rfl rfl (Qo rfl rfl rfl rfl (nL rfl) rfl (QU rfl rfl ?_))))))))
    refine Qv (l := (([wsP v] : List Pl)).flatMap cPl) (els := (([wsP v] : List Pl)).map cPl) (fl := true) rfl (by kernel_rfl) rfl rfl (by kernel_rfl) (by kernel_rfl) (QV (f := cPl) (xs := ls.flatten ++ (norms.take k).map wsP) (y := wsP v) (fl' := true) rfl rfl rfl rfl (by simp; rw [show norms.length = 6 from rfl]; omega) rfl rfl rfl (by decide) rfl (by omega) (by omega) rfl (Qe rfl rfl (Qa fun _ => QI (Qd (Qc (Qx rfl rfl rfl (by omega) (Qe rfl rfl (Qa fun _ => ?_))))))))
    refine Qd ?_
    exact ⟨k + 1, by omega, by omega, QQ (i := 24) (i' := 1005) (F1 := [(3, .sl 24 0 (ls.flatten.length + (k + 1))), (14, .rs 3 (norms.map cV)), (15, iv ((6 : Nat) : Int)), (16, iv (((k + 1) : Nat) : Int))]) (H1 := [(24, .cells 90 4 ((ls.flatten ++ (norms.take (k + 1)).map wsP).map cPl) true)]) (.cs (.cs (.cs (.cs (.nil))))) (.keep (by rw [ws_succ hvk]; rfl) rfl (.nil)) (fun i h => by cases h) rfl rfl (.cons rfl (.sl _ _) (.cons rfl (.same _) (.cons rfl (.same _) (.cons rfl (.same _) (.nil))))) (.cs (.cs (.cs (.cs (.nil))))) (.keep (rfl) rfl (.nil)) (fun i h => by cases h)⟩
  · replace h17 := of_decide_eq_false h17
    refine Q3 (QB (QB (QA (Qd (Qb (Qc (Qf 2 rfl (Qa fun _ => Qd ?_))))))))
    refine Ql ?_
    obtain rfl : k = 6 := by omega
    exact Q5 rfl (QK (f := cPl) (xs := ofS ls) rfl rfl (by simp [ofS, norms]) (fun _ => rfl)) .nil
end Go.Proofs.YthfhaoogcpfboaaGreat

/-! Walks: VQ. -/
namespace Go.Proofs.YthfhaoogcpfboaaGreat
open Go.RowKit
set_option maxRecDepth 100000
set_option linter.unusedVariables false
theorem all_at {α : Type} {p : α → Bool} {l : List α} {k : Nat} {x : α} (h : l[k]? = some x) : (l.drop k).all p = (p x && (l.drop (k + 1)).all p) := by rw [drop_at h]; rfl
theorem withinS_at {m : Int} {l : List Int} {k : Nat} {x : Int} (h : l[k]? = some x) : withinS m (l.drop k) = (decide (-m ≤ x ∧ x ≤ m) && withinS m (l.drop (k + 1))) := all_at h
def XB (p : Pl) : Bool := withinS 4608 [p.n.x, p.n.y, p.n.z] && decide ((gL [p.n.x, p.n.y, p.n.z] : Int) = 1) && withinS 2097152 [p.b]
def badP (p : Pl) : Bool := !XB p
/-- The error of a cell. -/
def ckS (c : List Pl) : Int := if c.length > 48 then 2 else if c.any badP = true then 12 else 0
def badC (c : List Pl) : Bool := decide (ckS c ≠ 0)
def validS (ls : List (List Pl)) : Bool := !ls.any badC
def cfullS (c : List Pl) : Bool := validS [c] && fullS (ofS [c])
def apartS (a b : List Pl) : Bool := !validS [a, b] || !fullS (ofS [a, b])
def meetB (c q : List Pl) : Bool := !apartS c q
def sapartS (c : List Pl) (s : List (List Pl)) : Bool := !s.any (meetB c)
theorem within_bd {m : Int} {l : List Int} (h : withinS m l = true) : ∀ x ∈ l, -m ≤ x ∧ x ≤ m := fun x hx => of_decide_eq_true (List.all_eq_true.1 h x hx)
theorem mulBd {a b A B : Int} (ha : -A ≤ a ∧ a ≤ A) (hb : -B ≤ b ∧ b ≤ B) : -(A * B) ≤ a * b ∧ a * b ≤ A * B := by
  have h1 : (a * b).natAbs ≤ A.toNat * B.toNat := by rw [Int.natAbs_mul]; exact Nat.mul_le_mul (by omega) (by omega)
  have h2 : ((A.toNat * B.toNat : Nat) : Int) = A * B := by rw [Int.natCast_mul, Int.toNat_of_nonneg (by omega), Int.toNat_of_nonneg (by omega)]
  omega
def VB (m : Int) (v : V3) : Prop := (-m ≤ v.x ∧ v.x ≤ m) ∧ (-m ≤ v.y ∧ v.y ≤ m) ∧ (-m ≤ v.z ∧ v.z ≤ m)
theorem crossW_b {a b : V3} (ha : VB 4608 a) (hb : VB 4608 b) : VB 42467328 (Xx a b) := by
  obtain ⟨ax, ay, az⟩ := ha
  obtain ⟨bx, by_, bz⟩ := hb
  have e1 := mulBd ay bz; have e2 := mulBd az by_; have e3 := mulBd az bx; have e4 := mulBd ax bz; have e5 := mulBd ax by_; have e6 := mulBd ay bx
  simp only [Xx]
  rw [W_eq (n := a.y * b.z) (by omega), W_eq (n := a.z * b.y) (by omega), W_eq (n := a.z * b.x) (by omega), W_eq (n := a.x * b.z) (by omega), W_eq (n := a.x * b.y) (by omega), W_eq (n := a.y * b.x) (by omega), W_eq (n := a.y * b.z - a.z * b.y) (by omega), W_eq (n := a.z * b.x - a.x * b.z) (by omega), W_eq (n := a.x * b.y - a.y * b.x) (by omega)]
  refine ⟨?_, ?_, ?_⟩ <;> dsimp only <;> omega
theorem timesW_b {v : V3} {n : Int} (hv : VB 42467328 v) (hn : -2097152 ≤ n ∧ n ≤ 2097152) : VB 89060441849856 (JC v n) := by
  obtain ⟨ax, ay, az⟩ := hv
  have e1 := mulBd ax hn; have e2 := mulBd ay hn; have e3 := mulBd az hn
  simp only [JC]
  rw [W_eq (n := v.x * n) (by omega), W_eq (n := v.y * n) (by omega), W_eq (n := v.z * n) (by omega)]
  refine ⟨?_, ?_, ?_⟩ <;> dsimp only <;> omega
theorem addW_b {a b : V3} {A B C : Int} (ha : VB A a) (hb : VB B b) (h : A + B ≤ C := by decide) (hC : C ≤ 1000000000000000 := by decide) : VB C (addW a b) := by
  obtain ⟨ax, ay, az⟩ := ha
  obtain ⟨bx, by_, bz⟩ := hb
  simp only [addW]
  rw [W_eq (n := a.x + b.x) (by omega), W_eq (n := a.y + b.y) (by omega), W_eq (n := a.z + b.z) (by omega)]
  refine ⟨?_, ?_, ?_⟩ <;> dsimp only <;> omega
theorem dotW_b {a b : V3} (ha : VB 4608 a) (hb : VB 42467328 b) : -1000000000000 ≤ dotW a b ∧ dotW a b ≤ 1000000000000 := by
  obtain ⟨ax, ay, az⟩ := ha
  obtain ⟨bx, by_, bz⟩ := hb
  have e1 := mulBd ax bx; have e2 := mulBd ay by_; have e3 := mulBd az bz
  unfold dotW
  rw [W_eq (n := a.x * b.x) (by omega), W_eq (n := a.y * b.y) (by omega), W_eq (n := a.z * b.z) (by omega), W_eq (n := a.x * b.x + a.y * b.y) (by omega), W_eq (by omega)]
  omega
theorem valid_b {p : Pl} (h : XB p = true) : VB 4608 p.n ∧ (-2097152 ≤ p.b ∧ p.b ≤ 2097152) := by
  simp only [XB, Bool.and_eq_true] at h
  have h1 := within_bd h.1.1
  exact ⟨⟨h1 _ (by simp), h1 _ (by simp), h1 _ (by simp)⟩, within_bd h.2 _ (by simp)⟩
theorem sum3_b {p q r : Pl} (hp : XB p = true) (hq : XB q = true) (hr : XB r = true) : VB 267181325549568 (Jm p q r) ∧ (-1000000000000 ≤ wd3 p q r ∧ wd3 p q r ≤ 1000000000000) := by
  obtain ⟨p1, p2⟩ := valid_b hp
  obtain ⟨q1, q2⟩ := valid_b hq
  obtain ⟨r1, r2⟩ := valid_b hr
  refine ⟨?_, dotW_b r1 (crossW_b p1 q1)⟩
  have z : VB 0 (⟨0, 0, 0⟩ : V3) := ⟨by decide, by decide, by decide⟩
  exact addW_b (A := 178120883699712) (addW_b (A := 89060441849856) (addW_b z (timesW_b (crossW_b q1 r1) p2)) (timesW_b (crossW_b r1 p1) q2)) (timesW_b (crossW_b p1 q1) r2)
theorem okT_valid {p q r : Pl} (hp : XB p = true) (hq : XB q = true) (hr : XB r = true) : okT p q r = true := by
  obtain ⟨⟨h1, h2, h3⟩, h4⟩ := sum3_b hp hq hr
  refine List.all_eq_true.2 fun x hx => decide_eq_true ?_
  simp only [List.mem_cons, List.not_mem_nil, or_false] at hx
  rcases hx with rfl | rfl | rfl | rfl <;> omega
theorem okMid_valid {p : Pl} (hp : XB p = true) : ∀ {t : List Pl}, (∀ q ∈ t, XB q = true) → okMid p t = true
  | [], _ => rfl
  | q :: t, h => by
    simp only [okMid, Bool.and_eq_true]
    exact ⟨List.all_eq_true.2 fun s hs => okT_valid hp (h q (List.mem_cons_self ..)) (h s (List.mem_cons_of_mem _ hs)), okMid_valid hp fun s hs => h s (List.mem_cons_of_mem _ hs)⟩
theorem okTop_valid : ∀ {r : List Pl}, (∀ q ∈ r, XB q = true) → okTop r = true
  | [], _ => rfl
  | p :: t, h => by
    simp only [okTop, Bool.and_eq_true]
    exact ⟨okMid_valid (h p (List.mem_cons_self ..)) fun s hs => h s (List.mem_cons_of_mem _ hs), okTop_valid fun s hs => h s (List.mem_cons_of_mem _ hs)⟩
theorem ck_ok {c : List Pl} (h : badC c = false) : c.length ≤ 48 ∧ ∀ p ∈ c, XB p = true := by
  have h := of_decide_eq_false h
  unfold ckS at h
  split at h
  · exact absurd (by decide) h
  · rename_i h1
    split at h
    · exact absurd (by decide) h
    · rename_i h2
      refine ⟨by omega, fun p hp => ?_⟩
      cases hv : XB p with
      | true => rfl
      | false => exact absurd (List.any_eq_true.2 ⟨p, hp, by simp [badP, hv]⟩) h2
theorem valid_all {ls : List (List Pl)} (h : validS ls = true) : ∀ c ∈ ls, c.length ≤ 48 ∧ ∀ p ∈ c, XB p = true := fun c hc => by
  refine ck_ok ?_
  cases hb : badC c with
  | false => rfl
  | true =>
    unfold validS at h
    rw [List.any_eq_true.2 ⟨c, hc, hb⟩] at h; cases h
theorem norms_valid : ∀ p ∈ norms.map wsP, XB p = true := by decide +kernel
theorem ofS_valid {ls : List (List Pl)} (h : validS ls = true) : ∀ p ∈ ofS ls, XB p = true := fun p hp => by
  rcases List.mem_append.1 hp with hp | hp
  · obtain ⟨c, hc, hp⟩ := List.mem_flatten.1 hp
    exact (valid_all h c hc).2 p hp
  · exact norms_valid p hp
structure OkC (c : List Pl) : Prop where
  n : 1 ≤ c.length ∧ c.length ≤ 100
structure OkA (a b : List Pl) : Prop where
  n : 1 ≤ a.length ∧ a.length ≤ 100
  m : b.length ≤ 100
theorem OkA.fl {a b : List Pl} (h : OkA a b) : 1 ≤ [a, b].flatten.length ∧ [a, b].flatten.length ≤ 1000 := by
  have := h.n; have := h.m; simp; omega
theorem OkA.of {a b : List Pl} (h : validS [a, b] = true) : (ofS [a, b]).length ≤ 110 := by
  have h1 := (valid_all h a (by simp)).1; have h2 := (valid_all h b (by simp)).1; simp [ofS, norms]; omega
theorem OkC.fl {c : List Pl} (h : OkC c) : 1 ≤ [c].flatten.length ∧ [c].flatten.length ≤ 1000 := by
  have := h.n; simp; omega
theorem OkC.of {c : List Pl} (h : validS [c] = true) : (ofS [c]).length ≤ 110 := by
  have h1 := (valid_all h c (by simp)).1; simp [ofS, norms]; omega
def mcv182 : MC := (.seq (.reg [oN 4 (.mv (.c (.bool false))) []] false) (.seq (.seq (.reg [oM 7 1 [], oN 8 (.len (.t 7)) [0], oN 9 (.mv (.c (.int .i64 0))) []] false) (.block 0 (.loop (.seq (.reg [oN 10 (.bin .lss (.t 9) (.t 8)) []] false) (.seq (.cond (.t 10) .skip (.exit 0)) (.seq (.block 1 (.seq (.reg [oN 11 (.ixsl 1 (.t 7) (.t 9)) [], oD 12 1 11 [0], oM 6 12 [1, 0, 1]] false) (.seq (.reg [oM 13 6 [], oM 14 0 [], oN 15 (.un .neg (.t 14)) [1], oN 16 (.bin .lss (.t 13) (.t 15)) [0, 2], oM 17 16 [3], pM 18 6 17 false [4], pM 19 0 17 false [4], oG 20 (.bin .gtr (.t 18) (.t 19)) 17 false [5, 6, 4], oN 21 (.pick (.t 17) (.c (.bool true)) (.t 20)) [4, 7]] false) (.cond (.t 21) (.seq (.reg [oN 4 (.mv (.c (.bool false))) []] false) .ret) .skip)))) (.reg [oN 22 (.bin .add (.t 9) (.c (.int .i64 1))) [], oM 9 22 [0]] false))))))) (.seq (.reg [oN 4 (.mv (.c (.bool true))) []] false) .ret)))
theorem mcOkv182 : (match Tryz.f182.body with | some c => Q2 Tryz.prog 23 c | none => none) = some mcv182 := by kernel_rfl
theorem vc182 (m : Int) (l : List Int) (hm : 0 ≤ m ∧ m ≤ 1000000000) (hn : l.length ≤ 1000) : FC Tryz.prog 182 [iv m, ints l] [] (.bool (withinS m l)) [] false := by
  refine Qs (nt := 23) Tryz.func182 rfl rfl mcOkv182 (nL rfl) ?_
  delta mcv182
  refine Qb (Qc (Qe rfl rfl (Qa fun _ => Qd (Qb (Qb (Qc (Qe rfl rfl (Qq rfl rfl ?_))))))))
  refine Qe rfl rfl (Qa fun _ => Qd (Qm ?_))
  refine QC (α := Nat) (fun k => l.length - k) (fun k => [(0, iv m), (7, ints l), (8, iv (l.length : Int)), (9, iv (((k) : Nat) : Int))]) (fun k => []) (fun k => k ≤ l.length ∧ withinS m (l.drop k) = withinS m l) 0 (⟨by omega, rfl⟩)
    (Qj (.cs (.cs (.cs (.cs (.nil))))) (.nil) (fun i h => by cases h)) ?_
  rintro k ⟨hk, hinv⟩
  refine Qb (Qc (QJ rfl rfl rfl (Qa fun _ => Qd (Qb (Qh rfl (fun h10 => ?_) (fun h10 => ?_))))))
  · replace h10 := of_decide_eq_true h10
    refine Qn (Qd (Qb (Qm (Qb (Qc ?_)))))
    obtain ⟨x, hxk, hxm⟩ := Qy (L := l) (k := k) (by omega)
    rw [withinS_at hxk] at hinv
    refine Qt (f := ci) (y := x) rfl rfl rfl (by omega) hxk (Qf 2 rfl (Qa fun _ => Qd (Qb (Qc (Qf 2 rfl (rs_neg rfl rfl (by omega) (QE rfl rfl rfl rfl (fun h16 => ?_) (fun h16 => ?_))))))))
    · skip
      refine Qf 5 rfl (Qa fun _ => Qd (Qh rfl (fun _ => ?_) (fun h => by cases h)))
      refine Qb (Qc (Qe rfl rfl (Qa fun _ => Qd (Ql (QL (Q1 (Q1 (QL ?_))))))))
      refine Q1 ?_
      rw [decide_eq_false (show ¬ (-m ≤ x ∧ x ≤ m) by omega), Bool.false_and] at hinv
      rw [← hinv]
      exact Qk rfl rfl rfl (.inr rfl)
    · skip
      refine Qf 3 rfl (QE rfl rfl rfl rfl (fun h20 => ?_) (fun h20 => ?_))
      · skip
        refine QM rfl rfl rfl (Qa fun _ => Qd (Qh rfl (fun _ => ?_) (fun h => by cases h)))
        refine Qb (Qc (Qe rfl rfl (Qa fun _ => Qd (Ql (QL (Q1 (Q1 (QL ?_))))))))
        refine Q1 ?_
        rw [decide_eq_false (show ¬ (-m ≤ x ∧ x ≤ m) by omega), Bool.false_and] at hinv
        rw [← hinv]
        exact Qk rfl rfl rfl (.inr rfl)
      · skip
        refine QM rfl rfl rfl (Qa fun _ => Qd (Qh rfl (fun h => by cases h) (fun _ => ?_)))
        refine Qn (QI (Qd (Qc (Qx rfl rfl rfl (by omega) (Qe rfl rfl (Qa fun _ => Qd ?_))))))
        rw [decide_eq_true (show -m ≤ x ∧ x ≤ m by omega), Bool.true_and] at hinv
        exact ⟨k + 1, ⟨by omega, hinv⟩, by omega, Qj (.cs (.cs (.cs (.cs (.nil))))) (.nil) (fun i h => by cases h)⟩
  · replace h10 := of_decide_eq_false h10
    refine Q3 (QB (QB (QA (Qd (Qb (Qc (Qe rfl rfl (Qa fun _ => Qd ?_))))))))
    refine Ql ?_
    rw [List.drop_eq_nil_of_le (by omega)] at hinv
    rw [← hinv]
    exact Qk rfl rfl rfl (.inr rfl)
def mcv157 : MC := (.seq (.reg [oN 1 (.box 90 4 (.t 0)) [], oN 2 (.mv (.c (.bool false))) []] false) (.seq (.reg [oA 3 0 1 [], oA 4 0 3 [0], oD 5 1 4 [1], oA 6 0 1 [], oA 7 1 6 [3], oD 8 1 7 [4], oA 9 0 1 [], oA 10 2 9 [6], oD 11 1 10 [7], oN 12 (.bslice 3 1 [(.int .i64 0)] 3 [(0, (.t 5)), (1, (.t 8)), (2, (.t 11))]) [2, 5, 8], oN 13 (.call 182 [(.c (.int .i64 4608)), (.t 12)]) [9], oM 14 13 [10, 10], pA 15 0 1 14 true [11], pA 16 0 15 14 true [12, 11], pD 17 1 16 14 true [13, 11], pA 18 0 1 14 true [11], pA 19 1 18 14 true [15, 11], pD 20 1 19 14 true [16, 11], pA 21 0 1 14 true [11], pA 22 2 21 14 true [18, 11], pD 23 1 22 14 true [19, 11], oG 24 (.bslice 3 1 [(.int .i64 0)] 3 [(0, (.t 17)), (1, (.t 20)), (2, (.t 23))]) 14 true [14, 17, 20, 11], oG 25 (.call 183 [(.t 24)]) 14 true [21, 11, 11], oG 26 (.bin .eql (.t 25) (.c (.int .i64 1))) 14 true [22, 11], oN 27 (.pick (.t 14) (.t 26) (.c (.bool false))) [11, 23], oM 28 27 [24, 22], pA 29 3 1 28 true [25], pD 30 1 29 28 true [26, 25], oG 31 (.bslice 3 1 [(.int .i64 0)] 1 [(0, (.t 30))]) 28 true [27, 25], oG 32 (.call 182 [(.c (.int .i64 2097152)), (.t 31)]) 28 true [28, 25, 25], oN 33 (.pick (.t 28) (.t 32) (.c (.bool false))) [25, 29], oM 2 33 [30, 29, 0, 1, 2, 3, 4, 5, 6, 7, 8, 9, 10, 11, 12, 13, 14, 15, 16, 17, 18, 19, 20, 21, 22, 23, 24, 25, 26, 27, 28, 29, 30]] false) .ret))
theorem mcOkv157 : (match Tryz.f157.body with | some c => Q2 Tryz.prog 34 c | none => none) = some mcv157 := by kernel_rfl
theorem vc157 (p : Pl) : FC Tryz.prog 157 [.agg (cPl p)] [] (.bool (XB p)) [] false := by
  refine Qs (nt := 34) Tryz.func157 rfl rfl mcOkv157 (nL rfl) ?_
  delta mcv157
  refine Qb (Qc (Qf 2 rfl (Qa fun _ => Qd (Qb (Qc (Qf 9 rfl (Qv (l := (([p.n.x, p.n.y, p.n.z] : List Int)).flatMap ci) (els := (([p.n.x, p.n.y, p.n.z] : List Int)).map ci) (fl := true) rfl (by kernel_rfl) rfl rfl (by kernel_rfl) (by kernel_rfl) (Qi [12] rfl rfl (vc182 4608 [p.n.x, p.n.y, p.n.z] (by decide) (by simp)) (.cons (Qg rfl) (.cons (Xk (f := ci) (xs := [p.n.x, p.n.y, p.n.z]) (by simp) rfl rfl) (.nil))) rfl ?_))))))))
  cases h13 : withinS 4608 [p.n.x, p.n.y, p.n.z]
  · skip
    refine Qf 21 rfl (Qa fun _ => Qd (Ql ?_))
    rw [show XB p = false from by unfold XB; rw [h13]; rfl]
    exact Qk rfl rfl rfl (.inr rfl)
  · skip
    refine Qf 10 rfl (Qv (l := (([p.n.x, p.n.y, p.n.z] : List Int)).flatMap ci) (els := (([p.n.x, p.n.y, p.n.z] : List Int)).map ci) (fl := true) rfl (by kernel_rfl) rfl rfl (by kernel_rfl) (by kernel_rfl) (Qi [24] rfl rfl (fc46 [p.n.x, p.n.y, p.n.z] (fun x hx => by have := within_bd h13 x hx; omega) (by simp)) (.cons (Xk (f := ci) (xs := [p.n.x, p.n.y, p.n.z]) (by simp) rfl rfl) (.nil)) rfl (QE rfl rfl rfl rfl (fun h26 => ?_) (fun h26 => ?_))))
    · skip
      refine Qf 4 rfl (Qv (l := (([p.b] : List Int)).flatMap ci) (els := (([p.b] : List Int)).map ci) (fl := true) rfl (by kernel_rfl) rfl rfl (by kernel_rfl) (by kernel_rfl) (Qi [31] rfl rfl (vc182 2097152 [p.b] (by decide) (by simp)) (.cons (Qg rfl) (.cons (Xk (f := ci) (xs := [p.b]) (by simp) rfl rfl) (.nil))) rfl ?_))
      cases h32 : withinS 2097152 [p.b]
      · skip
        refine Qf 2 rfl (Qa fun _ => Qd (Ql ?_))
        rw [show XB p = false from by unfold XB; rw [h13, decide_eq_true h26, h32]; rfl]
        exact Qk rfl rfl rfl (.inr rfl)
      · skip
        refine Qf 2 rfl (Qa fun _ => Qd (Ql ?_))
        rw [show XB p = true from by unfold XB; rw [h13, decide_eq_true h26, h32]; rfl]
        exact Qk rfl rfl rfl (.inr rfl)
    · skip
      refine Qf 8 rfl (Qa fun _ => Qd (Ql ?_))
      rw [show XB p = false from by unfold XB; rw [h13, decide_eq_false h26]; rfl]
      exact Qk rfl rfl rfl (.inr rfl)
def mcv156 : MC := (.seq (.reg [oN 1 (.box 90 4 (.t 0)) [], oN 2 (.mv (.c (.bool false))) []] false) (.seq (.reg [oN 3 (.ld true 4 (.t 1)) [], oN 4 (.call 157 [(.t 3)]) [0], oN 5 (.un .not (.t 4)) [1], oM 2 5 [2, 1, 0, 1, 2]] false) .ret))
theorem mcOkv156 : (match Tryz.f156.body with | some c => Q2 Tryz.prog 6 c | none => none) = some mcv156 := by kernel_rfl
theorem vc156 (p : Pl) : FC Tryz.prog 156 [.agg (cPl p)] [] (.bool (badP p)) [] false := by
  refine Qs (nt := 6) Tryz.func156 rfl rfl mcOkv156 (nL rfl) ?_
  delta mcv156
  refine Qb (Qc (Qf 2 rfl (Qa fun _ => Qd (Qb (Qc (Qo rfl rfl rfl rfl (nL rfl) rfl (Qi [] rfl rfl (vc157 p) (.cons (Qg rfl) (.nil)) rfl (Qf 2 rfl ?_))))))))
  refine Qa fun _ => Qd (Ql ?_)
  exact Qk rfl rfl rfl (.inr rfl)
theorem vcI_bad (xs : List Pl) (hxn : xs.length ≤ 4611686018427387904) : FC Tryz.prog 181 [.rs 4 (xs.map cPl), (.fn (.func 156) [])] [] (.int .i64 (Xw badP xs 0)) [] false := by
  refine Qs (nt := 19) Tryz.func181 rfl rfl mcOkv181 (nL rfl) ?_
  delta mcv181
  refine Qb (Qc (Qe rfl rfl (Qa fun _ => Qd (Qb (Qb (Qc (Qe rfl rfl (Qq rfl rfl ?_))))))))
  refine Qe rfl rfl (Qa fun _ => Qd (Qm ?_))
  refine QC (α := Nat) (fun k => xs.length - k) (fun k => [(0, .rs 4 (xs.map cPl)), (1, (.fn (.func 156) [])), (6, .rs 4 (xs.map cPl)), (7, iv (xs.length : Int)), (8, iv (((k) : Nat) : Int))]) (fun k => []) (fun k => k ≤ xs.length ∧ Xw badP (xs.drop k) k = Xw badP xs 0) 0 (⟨by omega, rfl⟩)
    (Qj (.cs (.cs (.cs (.cs (.cs (.nil)))))) (.nil) (fun i h => by cases h)) ?_
  rintro k ⟨hk, hinv⟩
  refine Qb (Qc (QJ rfl rfl rfl (Qa fun _ => Qd (Qb (Qh rfl (fun h9 => ?_) (fun h9 => ?_))))))
  · replace h9 := of_decide_eq_true h9
    refine Qn (Qd (Qb (Qm (Qb (Qc (Qf 2 rfl (Qa fun _ => Qd (Qb ?_))))))))
    refine Qc (Qf 3 rfl ?_)
    obtain ⟨x, hxk, hxm⟩ := Qy (L := xs) (k := k) (by omega)
    rw [JM hxk] at hinv
    
    refine Qt (f := cPl) (y := x) rfl rfl rfl (by omega) hxk (QR (cs := cPl x) rfl rfl (nL rfl) rfl (X5 [] rfl rfl (by kernel_rfl) rfl (fc_up (vc156 x)) (.cons (Qg rfl) (.nil)) .nil rfl rfl rfl ?_))
    cases h16 : badP x
    · skip
      refine Qa fun _ => Qd (Qh rfl (fun h => by cases h) (fun _ => ?_))
      refine Qn (QI (Qd (Qc (Qx rfl rfl rfl (by omega) (Qe rfl rfl (Qa fun _ => Qd ?_))))))
      rw [h16] at hinv
      exact ⟨k + 1, ⟨by omega, hinv⟩, by omega, Qj (.cs (.cs (.cs (.cs (.cs (.nil)))))) (.nil) (fun i h => by cases h)⟩
    · skip
      refine Qa fun _ => Qd (Qh rfl (fun _ => ?_) (fun h => by cases h))
      refine Qb (Qc (Qf 2 rfl (Qa fun _ => Qd (Ql (QL (Q1 (Q1 (QL ?_))))))))
      refine Q1 ?_
      rw [h16] at hinv
      rw [← hinv]
      exact Qk rfl rfl rfl (.inr rfl)
  · replace h9 := of_decide_eq_false h9
    refine Q3 (QB (QB (QA (Qd (Qb (Qc (Qe rfl rfl (Qa fun _ => Qd ?_))))))))
    refine Ql ?_
    rw [J3 (by omega)] at hinv
    rw [← hinv]
    exact Qk rfl rfl rfl (.inr rfl)
theorem vcC_bad (xs : List Pl) (hxn : xs.length ≤ 4611686018427387904) : FC Tryz.prog 155 [.rs 4 (xs.map cPl), (.fn (.func 156) [])] [] (.bool (xs.any badP)) [] false := by
  refine Qs (nt := 9) Tryz.func155 rfl rfl mcOkv155 (nL rfl) ?_
  delta mcv155
  refine Qb (Qc (Qe rfl rfl (Qa fun _ => Qd (Qb (Qc (Qf 2 rfl (Qi [] rfl rfl (vcI_bad xs hxn) (.cons (Qg rfl) (.cons (Qg rfl) (.nil))) rfl (XM rfl rfl rfl ?_))))))))
  refine Qe rfl rfl (Qa fun _ => Qd (Ql ?_))
  rw [← Jt]
  exact Qk rfl rfl rfl (.inr rfl)
def mcv128 : MC := (.seq (.reg [oN 2 (.mv (.c (.int .i64 0))) []] false) (.seq (.block 0 (.seq (.reg [oM 4 0 [], oN 5 (.len (.t 4)) [0], oN 6 (.bin .gtr (.t 5) (.c (.int .i64 48))) [1], oM 3 6 [2]] false) (.cond (.t 3) (.seq (.reg [oN 2 (.mv (.c (.int .i64 2))) []] false) .ret) (.seq (.reg [oM 8 0 [], oN 9 (.call 155 [(.t 8), (.c (.fn (.func 156) []))]) [0], oM 7 9 [1, 1]] false) (.cond (.t 7) (.seq (.reg [oN 2 (.mv (.c (.int .i64 12))) []] false) .ret) .skip))))) (.seq (.reg [oN 2 (.mv (.c (.int .i64 0))) []] false) .ret)))
theorem mcOkv128 : (match Tryz.f128.body with | some c => Q2 Tryz.prog 10 c | none => none) = some mcv128 := by kernel_rfl
theorem vc128 (c : List Pl) (hc : c.length ≤ 1000) : FC Tryz.prog 128 [.rs 4 (c.map cPl)] [] (iv (ckS c)) [] false := by
  refine Qs (nt := 10) Tryz.func128 rfl rfl mcOkv128 (nL rfl) ?_
  delta mcv128
  refine Qb (Qc (Qe rfl rfl (Qa fun _ => Qd (Qb (Qm (Qb (Qc (Qe rfl rfl ?_))))))))
  refine Qq rfl rfl (rs_gtr rfl rfl rfl (Qe rfl rfl (Qa fun _ => Qd (Qh rfl (fun h3 => ?_) (fun h3 => ?_)))))
  · replace h3 := of_decide_eq_true h3
    refine Qb (Qc (Qe rfl rfl (Qa fun _ => Qd (Ql (QL (Q1 ?_))))))
    rw [show ckS c = 2 from if_pos (by omega)]
    exact Qk rfl rfl rfl (.inr rfl)
  · replace h3 := of_decide_eq_false h3
    refine Qb (Qc (Qe rfl rfl (Qi [] rfl rfl (vcC_bad c (by omega)) (.cons (Qg rfl) (.cons (Qg rfl) (.nil))) rfl ?_)))
    cases h9 : c.any badP
    · skip
      refine Qe rfl rfl (Qa fun _ => Qd (Qh rfl (fun h => by cases h) (fun _ => ?_)))
      refine Qn (QI (Qd (Qb (Qc (Qe rfl rfl (Qa fun _ => Qd (Ql ?_)))))))
      rw [show ckS c = 0 from by unfold ckS; rw [if_neg (by omega), h9]; rfl]
      exact Qk rfl rfl rfl (.inr rfl)
    · skip
      refine Qe rfl rfl (Qa fun _ => Qd (Qh rfl (fun _ => ?_) (fun h => by cases h)))
      refine Qb (Qc (Qe rfl rfl (Qa fun _ => Qd (Ql (QL (Q1 ?_))))))
      rw [show ckS c = 12 from by unfold ckS; rw [if_neg (by omega), h9]; rfl]
      exact Qk rfl rfl rfl (.inr rfl)
def mcv159 : MC := (.seq (.reg [oN 2 (.mv (.c (.bool false))) []] false) (.seq (.reg [oM 3 0 [], oN 4 (.call 128 [(.t 3)]) [0], oN 5 (.bin .neq (.t 4) (.c (.int .i64 0))) [1], oM 2 5 [2, 1, 0, 1, 2]] false) .ret))
theorem mcOkv159 : (match Tryz.f159.body with | some c => Q2 Tryz.prog 6 c | none => none) = some mcv159 := by kernel_rfl
theorem vc159 (c : List Pl) (hc : c.length ≤ 1000) : FC Tryz.prog 159 [.rs 4 (c.map cPl)] [] (.bool (badC c)) [] false := by
  refine Qs (nt := 6) Tryz.func159 rfl rfl mcOkv159 (nL rfl) ?_
  delta mcv159
  refine Qb (Qc (Qe rfl rfl (Qa fun _ => Qd (Qb (Qc (Qe rfl rfl (Qi [] rfl rfl (vc128 c hc) (.cons (Qg rfl) (.nil)) rfl (JD rfl rfl rfl ?_))))))))
  refine Qe rfl rfl (Qa fun _ => Qd (Ql ?_))
  exact Qk rfl rfl rfl (.inr rfl)
def mcv158 : MC := (.seq (.reg [oN 4 (.mv (.c (.int .i64 0))) []] false) (.seq (.seq (.reg [oM 6 0 [], oN 7 (.len (.t 6)) [0], oN 8 (.mv (.c (.int .i64 0))) []] false) (.block 0 (.loop (.seq (.reg [oN 9 (.bin .lss (.t 8) (.t 7)) []] false) (.seq (.cond (.t 9) .skip (.exit 0)) (.seq (.block 1 (.seq (.reg [oM 10 8 [], oM 5 10 [0, 0]] false) (.seq (.reg [oM 11 1 [], oM 12 0 [], oM 13 5 [], oN 14 (.ixsl 1 (.t 12) (.t 13)) [1, 2], oD 15 1 14 [3], oN 16 (.callv (.t 11) [(.t 15)]) [0, 4]] false) (.cond (.t 16) (.seq (.reg [oM 17 5 [], oM 4 17 [0, 0]] false) .ret) .skip)))) (.reg [oN 18 (.bin .add (.t 8) (.c (.int .i64 1))) [], oM 8 18 [0]] false))))))) (.seq (.reg [oN 4 (.mv (.c (.int .i64 (-1)))) []] false) .ret)))
theorem mcOkv158 : (match Tryz.f158.body with | some c => Q2 Tryz.prog 19 c | none => none) = some mcv158 := by kernel_rfl
theorem vcI_badc (xs : List (List Pl)) (hx : ∀ x ∈ xs, x.length ≤ 1000) (hxn : xs.length ≤ 4611686018427387904) : FC Tryz.prog 158 [.rs 1 (xs.map cR), (.fn (.func 159) [])] [] (.int .i64 (Xw badC xs 0)) [] false := by
  refine Qs (nt := 19) Tryz.func158 rfl rfl mcOkv158 (nL rfl) ?_
  delta mcv158
  refine Qb (Qc (Qe rfl rfl (Qa fun _ => Qd (Qb (Qb (Qc (Qe rfl rfl (Qq rfl rfl ?_))))))))
  refine Qe rfl rfl (Qa fun _ => Qd (Qm ?_))
  refine QC (α := Nat) (fun k => xs.length - k) (fun k => [(0, .rs 1 (xs.map cR)), (1, (.fn (.func 159) [])), (6, .rs 1 (xs.map cR)), (7, iv (xs.length : Int)), (8, iv (((k) : Nat) : Int))]) (fun k => []) (fun k => k ≤ xs.length ∧ Xw badC (xs.drop k) k = Xw badC xs 0) 0 (⟨by omega, rfl⟩)
    (Qj (.cs (.cs (.cs (.cs (.cs (.nil)))))) (.nil) (fun i h => by cases h)) ?_
  rintro k ⟨hk, hinv⟩
  refine Qb (Qc (QJ rfl rfl rfl (Qa fun _ => Qd (Qb (Qh rfl (fun h9 => ?_) (fun h9 => ?_))))))
  · replace h9 := of_decide_eq_true h9
    refine Qn (Qd (Qb (Qm (Qb (Qc (Qf 2 rfl (Qa fun _ => Qd (Qb ?_))))))))
    refine Qc (Qf 3 rfl ?_)
    obtain ⟨x, hxk, hxm⟩ := Qy (L := xs) (k := k) (by omega)
    rw [JM hxk] at hinv
    
    refine Qt (f := cR) (y := x) rfl rfl rfl (by omega) hxk (Xh rfl rfl rfl (X5 [] rfl rfl (by kernel_rfl) rfl (fc_up (vc159 x (hx x hxm))) (.cons (Qg rfl) (.nil)) .nil rfl rfl rfl ?_))
    cases h16 : badC x
    · skip
      refine Qa fun _ => Qd (Qh rfl (fun h => by cases h) (fun _ => ?_))
      refine Qn (QI (Qd (Qc (Qx rfl rfl rfl (by omega) (Qe rfl rfl (Qa fun _ => Qd ?_))))))
      rw [h16] at hinv
      exact ⟨k + 1, ⟨by omega, hinv⟩, by omega, Qj (.cs (.cs (.cs (.cs (.cs (.nil)))))) (.nil) (fun i h => by cases h)⟩
    · skip
      refine Qa fun _ => Qd (Qh rfl (fun _ => ?_) (fun h => by cases h))
      refine Qb (Qc (Qf 2 rfl (Qa fun _ => Qd (Ql (QL (Q1 (Q1 (QL ?_))))))))
      refine Q1 ?_
      rw [h16] at hinv
      rw [← hinv]
      exact Qk rfl rfl rfl (.inr rfl)
  · replace h9 := of_decide_eq_false h9
    refine Q3 (QB (QB (QA (Qd (Qb (Qc (Qe rfl rfl (Qa fun _ => Qd ?_))))))))
    refine Ql ?_
    rw [J3 (by omega)] at hinv
    rw [← hinv]
    exact Qk rfl rfl rfl (.inr rfl)
def mcv131 : MC := (.seq (.reg [oN 4 (.mv (.c (.bool false))) []] false) (.seq (.reg [oM 5 0 [], oM 6 1 [], oN 7 (.call 158 [(.t 5), (.t 6)]) [0, 1], oN 8 (.bin .geq (.t 7) (.c (.int .i64 0))) [2], oM 4 8 [3, 2, 0, 1, 2, 3]] false) .ret))
theorem mcOkv131 : (match Tryz.f131.body with | some c => Q2 Tryz.prog 9 c | none => none) = some mcv131 := by kernel_rfl
theorem vcC_badc (xs : List (List Pl)) (hx : ∀ x ∈ xs, x.length ≤ 1000) (hxn : xs.length ≤ 4611686018427387904) : FC Tryz.prog 131 [.rs 1 (xs.map cR), (.fn (.func 159) [])] [] (.bool (xs.any badC)) [] false := by
  refine Qs (nt := 9) Tryz.func131 rfl rfl mcOkv131 (nL rfl) ?_
  delta mcv131
  refine Qb (Qc (Qe rfl rfl (Qa fun _ => Qd (Qb (Qc (Qf 2 rfl (Qi [] rfl rfl (vcI_badc xs hx hxn) (.cons (Qg rfl) (.cons (Qg rfl) (.nil))) rfl (XM rfl rfl rfl ?_))))))))
  refine Qe rfl rfl (Qa fun _ => Qd (Ql ?_))
  rw [← Jt]
  exact Qk rfl rfl rfl (.inr rfl)
def mcv133 : MC := (.seq (.reg [oN 2 (.mv (.c (.bool false))) []] false) (.seq (.reg [oM 3 0 [], oN 4 (.call 131 [(.t 3), (.c (.fn (.func 159) []))]) [0], oN 5 (.un .not (.t 4)) [1], oM 2 5 [2, 1, 0, 1, 2]] false) .ret))
theorem mcOkv133 : (match Tryz.f133.body with | some c => Q2 Tryz.prog 6 c | none => none) = some mcv133 := by kernel_rfl
theorem vc133 (ls : List (List Pl)) (hx : ∀ x ∈ ls, x.length ≤ 1000) (hn : ls.length ≤ 1000) : FC Tryz.prog 133 [.rs 1 (ls.map cR)] [] (.bool (validS ls)) [] false := by
  refine Qs (nt := 6) Tryz.func133 rfl rfl mcOkv133 (nL rfl) ?_
  delta mcv133
  refine Qb (Qc (Qe rfl rfl (Qa fun _ => Qd (Qb (Qc (Qe rfl rfl (Qi [] rfl rfl (vcC_badc ls hx (by omega)) (.cons (Qg rfl) (.cons (Qg rfl) (.nil))) rfl (Qf 2 rfl ?_))))))))
  refine Qa fun _ => Qd (Ql ?_)
  exact Qk rfl rfl rfl (.inr rfl)
def mcv154 : MC := (.seq (.reg [oN 2 (.mv (.c (.bool false))) []] false) (.seq (.reg [oM 3 0 [], oN 4 (.bslice 85 1 [.nils] 1 [(0, (.t 3))]) [0], oN 5 (.call 133 [(.t 4)]) [1], oM 6 5 [2, 2], pM 7 0 6 true [3], oG 8 (.bslice 85 1 [.nils] 1 [(0, (.t 7))]) 6 true [4, 3], oG 9 (.call 134 [(.t 8)]) 6 true [5, 3, 3], oG 10 (.call 135 [(.t 9)]) 6 true [6, 6, 3], oN 11 (.pick (.t 6) (.t 10) (.c (.bool false))) [3, 7], oM 2 11 [8, 7, 0, 1, 2, 3, 4, 5, 6, 7, 8]] false) .ret))
theorem mcOkv154 : (match Tryz.f154.body with | some c => Q2 Tryz.prog 12 c | none => none) = some mcv154 := by kernel_rfl
theorem vc154 (c : List Pl) (h : OkC c) : FC Tryz.prog 154 [.rs 4 (c.map cPl)] [] (.bool (cfullS c)) [] false := by
  have hcn := h.n
  refine Qs (nt := 12) Tryz.func154 rfl rfl mcOkv154 (nL rfl) ?_
  delta mcv154
  refine Qb (Qc (Qe rfl rfl (Qa fun _ => Qd (Qb (Qc (Qe rfl rfl (Qv (l := (([c] : List (List Pl))).flatMap cR) (els := (([c] : List (List Pl))).map cR) (fl := true) rfl (by kernel_rfl) rfl rfl (by kernel_rfl) (by kernel_rfl) (Qi [4] rfl rfl (vc133 [c] (fun x hx => by rw [List.mem_singleton.1 hx]; omega) (by simp)) (.cons (Xk (f := cR) (xs := [c]) (by simp) rfl rfl) (.nil)) rfl ?_))))))))
  cases h5 : validS [c]
  · skip
    refine Qf 7 rfl (Qa fun _ => Qd (Ql ?_))
    rw [show cfullS c = false from by unfold cfullS; rw [h5]; rfl]
    exact Qk rfl rfl rfl (.inr rfl)
  · skip
    refine Qf 2 rfl (Qv (l := (([c] : List (List Pl))).flatMap cR) (els := (([c] : List (List Pl))).map cR) (fl := true) rfl (by kernel_rfl) rfl rfl (by kernel_rfl) (by kernel_rfl) (Qi [8] rfl rfl (vc134 [c] h.fl (by simp)) (.cons (Xk (f := cR) (xs := [c]) (by simp) rfl rfl) (.nil)) rfl (Qi [] rfl rfl (vc135 (ofS [c]) (OkC.of h5) (okTop_valid (ofS_valid h5))) (.cons (Qg rfl) (.nil)) rfl (Qf 2 rfl (Qa fun _ => Qd (Ql ?_))))))
    rw [show cfullS c = fullS (ofS [c]) from by unfold cfullS; rw [h5]; rfl]
    exact Qk rfl rfl rfl (.inr rfl)
def mcv89 : MC := (.seq (.reg [oN 4 (.mv (.c (.bool false))) []] false) (.seq (.reg [oM 5 0 [], oM 6 1 [], oN 7 (.bslice 85 1 [.nils] 2 [(0, (.t 5)), (1, (.t 6))]) [0, 1], oN 8 (.call 133 [(.t 7)]) [2], oN 9 (.un .not (.t 8)) [3], oM 10 9 [4, 3], pM 11 0 10 false [5], pM 12 1 10 false [5], oG 13 (.bslice 85 1 [.nils] 2 [(0, (.t 11)), (1, (.t 12))]) 10 false [6, 7, 5], oG 14 (.call 134 [(.t 13)]) 10 false [8, 5, 5], oG 15 (.call 135 [(.t 14)]) 10 false [9, 9, 5], oG 16 (.un .not (.t 15)) 10 false [10, 5], oN 17 (.pick (.t 10) (.c (.bool true)) (.t 16)) [5, 11], oM 4 17 [12, 10, 0, 1, 2, 3, 4, 5, 6, 7, 8, 9, 10, 11, 12]] false) .ret))
theorem mcOkv89 : (match Tryz.f89.body with | some c => Q2 Tryz.prog 18 c | none => none) = some mcv89 := by kernel_rfl
theorem vc89 (a b : List Pl) (h : OkA a b) : FC Tryz.prog 89 [.rs 4 (a.map cPl), .rs 4 (b.map cPl)] [] (.bool (apartS a b)) [] false := by
  have hcn := h.n
  have hcm := h.m
  refine Qs (nt := 18) Tryz.func89 rfl rfl mcOkv89 (nL rfl) ?_
  delta mcv89
  refine Qb (Qc (Qe rfl rfl (Qa fun _ => Qd (Qb (Qc (Qf 2 rfl (Qv (l := (([a, b] : List (List Pl))).flatMap cR) (els := (([a, b] : List (List Pl))).map cR) (fl := true) rfl (by kernel_rfl) rfl rfl (by kernel_rfl) (by kernel_rfl) (Qi [7] rfl rfl (vc133 [a, b] (fun x hx => by simp only [List.mem_cons, List.not_mem_nil, or_false] at hx; rcases hx with e | e <;> rw [e] <;> omega) (by simp)) (.cons (Xk (f := cR) (xs := [a, b]) (by simp) rfl rfl) (.nil)) rfl ?_))))))))
  cases h8 : validS [a, b]
  · skip
    refine Qf 10 rfl (Qa fun _ => Qd (Ql ?_))
    rw [show apartS a b = true from by unfold apartS; rw [h8]; rfl]
    exact Qk rfl rfl rfl (.inr rfl)
  · skip
    refine Qf 4 rfl (Qv (l := (([a, b] : List (List Pl))).flatMap cR) (els := (([a, b] : List (List Pl))).map cR) (fl := true) rfl (by kernel_rfl) rfl rfl (by kernel_rfl) (by kernel_rfl) (Qi [13] rfl rfl (vc134 [a, b] h.fl (by simp)) (.cons (Xk (f := cR) (xs := [a, b]) (by simp) rfl rfl) (.nil)) rfl (Qi [] rfl rfl (vc135 (ofS [a, b]) (OkA.of h8) (okTop_valid (ofS_valid h8))) (.cons (Qg rfl) (.nil)) rfl (Qf 3 rfl (Qa fun _ => Qd (Ql ?_))))))
    rw [show apartS a b = !fullS (ofS [a, b]) from by unfold apartS; rw [h8]; rfl]
    exact Qk rfl rfl rfl (.inr rfl)
def mcv132 : MC := (.seq (.reg [oN 3 (.mv (.c (.bool false))) []] false) (.seq (.reg [oD 4 1 1 [], oM 5 0 [], oN 6 (.call 89 [(.t 4), (.t 5)]) [0, 1], oN 7 (.un .not (.t 6)) [2], oM 3 7 [3, 2, 0, 1, 2, 3]] false) .ret))
theorem mcOkv132 : (match Tryz.f132.body with | some c => Q2 Tryz.prog 8 c | none => none) = some mcv132 := by kernel_rfl
theorem vc132 (c q : List Pl) (h : OkA c q) : FC Tryz.prog 132 [.rs 4 (q.map cPl), .rp [.rs 4 (c.map cPl)]] [] (.bool (meetB c q)) [] false := by
  refine Qs (nt := 8) Tryz.func132 rfl rfl mcOkv132 (nL rfl) ?_
  delta mcv132
  refine Qb (Qc (Qe rfl rfl (Qa fun _ => Qd (Qb (Qc (Qf 2 rfl (Qi [] rfl rfl (vc89 c q h) (.cons (Qg rfl) (.cons (Qg rfl) (.nil))) rfl (Qf 2 rfl ?_))))))))
  refine Qa fun _ => Qd (Ql ?_)
  exact Qk rfl rfl rfl (.inr rfl)
theorem vcI_apt (c : List Pl) (xs : List (List Pl)) (hx : ∀ x ∈ xs, OkA c x) (hxn : xs.length ≤ 4611686018427387904) : FC Tryz.prog 158 [.rs 1 (xs.map cR), (.fn (.func 132) [.rp [.rs 4 (c.map cPl)]])] [] (.int .i64 (Xw (meetB c) xs 0)) [] false := by
  refine Qs (nt := 19) Tryz.func158 rfl rfl mcOkv158 (nL rfl) ?_
  delta mcv158
  refine Qb (Qc (Qe rfl rfl (Qa fun _ => Qd (Qb (Qb (Qc (Qe rfl rfl (Qq rfl rfl ?_))))))))
  refine Qe rfl rfl (Qa fun _ => Qd (Qm ?_))
  refine QC (α := Nat) (fun k => xs.length - k) (fun k => [(0, .rs 1 (xs.map cR)), (1, (.fn (.func 132) [.rp [.rs 4 (c.map cPl)]])), (6, .rs 1 (xs.map cR)), (7, iv (xs.length : Int)), (8, iv (((k) : Nat) : Int))]) (fun k => []) (fun k => k ≤ xs.length ∧ Xw (meetB c) (xs.drop k) k = Xw (meetB c) xs 0) 0 (⟨by omega, rfl⟩)
    (Qj (.cs (.cs (.cs (.cs (.cs (.nil)))))) (.nil) (fun i h => by cases h)) ?_
  rintro k ⟨hk, hinv⟩
  refine Qb (Qc (QJ rfl rfl rfl (Qa fun _ => Qd (Qb (Qh rfl (fun h9 => ?_) (fun h9 => ?_))))))
  · replace h9 := of_decide_eq_true h9
    refine Qn (Qd (Qb (Qm (Qb (Qc (Qf 2 rfl (Qa fun _ => Qd (Qb ?_))))))))
    refine Qc (Qf 3 rfl ?_)
    obtain ⟨x, hxk, hxm⟩ := Qy (L := xs) (k := k) (by omega)
    rw [JM hxk] at hinv
    
    refine Qt (f := cR) (y := x) rfl rfl rfl (by omega) hxk (Xh rfl rfl rfl (X5 [] rfl rfl (by kernel_rfl) rfl (fc_up (vc132 c x (hx x hxm))) (.cons (Qg rfl) (.cons (Qg rfl) (.nil))) .nil rfl rfl rfl ?_))
    cases h16 : (meetB c) x
    · skip
      refine Qa fun _ => Qd (Qh rfl (fun h => by cases h) (fun _ => ?_))
      refine Qn (QI (Qd (Qc (Qx rfl rfl rfl (by omega) (Qe rfl rfl (Qa fun _ => Qd ?_))))))
      rw [h16] at hinv
      exact ⟨k + 1, ⟨by omega, hinv⟩, by omega, Qj (.cs (.cs (.cs (.cs (.cs (.nil)))))) (.nil) (fun i h => by cases h)⟩
    · skip
      refine Qa fun _ => Qd (Qh rfl (fun _ => ?_) (fun h => by cases h))
      refine Qb (Qc (Qf 2 rfl (Qa fun _ => Qd (Ql (QL (Q1 (Q1 (QL ?_))))))))
      refine Q1 ?_
      rw [h16] at hinv
      rw [← hinv]
      exact Qk rfl rfl rfl (.inr rfl)
  · replace h9 := of_decide_eq_false h9
    refine Q3 (QB (QB (QA (Qd (Qb (Qc (Qe rfl rfl (Qa fun _ => Qd ?_))))))))
    refine Ql ?_
    rw [J3 (by omega)] at hinv
    rw [← hinv]
    exact Qk rfl rfl rfl (.inr rfl)
theorem vcC_apt (c : List Pl) (xs : List (List Pl)) (hx : ∀ x ∈ xs, OkA c x) (hxn : xs.length ≤ 4611686018427387904) : FC Tryz.prog 131 [.rs 1 (xs.map cR), (.fn (.func 132) [.rp [.rs 4 (c.map cPl)]])] [] (.bool (xs.any (meetB c))) [] false := by
  refine Qs (nt := 9) Tryz.func131 rfl rfl mcOkv131 (nL rfl) ?_
  delta mcv131
  refine Qb (Qc (Qe rfl rfl (Qa fun _ => Qd (Qb (Qc (Qf 2 rfl (Qi [] rfl rfl (vcI_apt c xs hx hxn) (.cons (Qg rfl) (.cons (Qg rfl) (.nil))) rfl (XM rfl rfl rfl ?_))))))))
  refine Qe rfl rfl (Qa fun _ => Qd (Ql ?_))
  rw [← Jt]
  exact Qk rfl rfl rfl (.inr rfl)
def mcv86 : MC := (.seq (.reg [oN 2 (.box 85 1 (.t 0)) [], oN 4 (.mv (.c (.bool false))) []] false) (.seq (.reg [oM 5 1 [], oN 6 (.mkfn (.func 132) [(.t 2)]) [], oN 7 (.call 131 [(.t 5), (.t 6)]) [0, 1], oN 8 (.un .not (.t 7)) [2], oM 4 8 [3, 2, 0, 1, 2, 3]] false) .ret))
theorem mcOkv86 : (match Tryz.f86.body with | some c => Q2 Tryz.prog 9 c | none => none) = some mcv86 := by kernel_rfl
theorem vc86 (c : List Pl) (s : List (List Pl)) (hx : ∀ x ∈ s, OkA c x) (hs : s.length ≤ 1000) : FC Tryz.prog 86 [.rs 4 (c.map cPl), .rs 1 (s.map cR)] [] (.bool (sapartS c s)) [] false := by
  refine Qs (nt := 9) Tryz.func86 rfl rfl mcOkv86 (nL rfl) ?_
  delta mcv86
  refine Qb (Qc (Qf 2 rfl (Qa fun _ => Qd (Qb (Xm (F0 := [(1, .rs 1 (s.map cR)), (2, .rp [.rs 4 (c.map cPl)])]) (H0 := []) (Qj (.cs (.cons rfl (XS rfl rfl (.inl rfl)) (.nil))) (.nil) (fun i h => by cases h)) (Qc (Qf 2 rfl (Qi [] rfl rfl (vcC_apt c s hx (by omega)) (.cons (Qg rfl) (.cons (Qg rfl) (.nil))) rfl ?_))))))))
  refine Qf 2 rfl (Qa fun _ => Qd (Ql ?_))
  exact Qk rfl rfl rfl (.inr rfl)
end Go.Proofs.YthfhaoogcpfboaaGreat

/-! The tree of leaves, in plain words: what Show and RootOf say of it. -/
namespace Go.Proofs.YthfhaoogcpfboaaGreat
open Go.RowKit
set_option linter.unusedVariables false
theorem sel_some {ls : List Lf} {i : Int} (h0 : 0 ≤ i) (h1 : i < (ls.length : Int)) : ls[i.toNat]? = some (Xt ls i) := by
  obtain ⟨x, hx, _⟩ := Qy (L := ls) (k := i.toNat) (by omega)
  rw [selF_at hx]; exact hx
theorem incF_ok {z : Int} : ∀ (l : List Int) (p : Int), (∀ x ∈ l, 0 ≤ x ∧ x < z) → (∀ (k : Nat) (a b : Int), l[k]? = some a → l[k + 1]? = some b → a < b) → (∀ x, l[0]? = some x → p < x) → incF z p l = true
  | [], _, _, _, _ => rfl
  | x :: l, p, h1, h2, h3 => by
    have hx := h1 x (List.mem_cons_self ..)
    have h4 := h3 x rfl
    have := incF_ok l x (fun y hy => h1 y (List.mem_cons_of_mem _ hy)) (fun k a b ha hb => h2 (k + 1) a b ha hb) (fun y hy => h2 0 x y rfl hy)
    simp only [incF, Bool.and_eq_true, decide_eq_true_eq]
    exact ⟨⟨⟨hx.1, hx.2⟩, h4⟩, this⟩
theorem IxOK.incF {n : Nat} {w : List Int} (h : IxOK n w) : incF (n : Int) (-1) w = true :=
  incF_ok w (-1) h.bd h.inc fun x hx => by have := h.bd x (Xl hx); omega
theorem tree_len8 (ls : List Lf) : ∀ d b, (Q4 (ofK ls) d b).length = 8
  | 0, b => by
    show ((ofK ls b 1).getD []).length = 8
    unfold ofK
    rw [if_neg (by decide)]
    split <;> exact (Jb _).2
  | d + 1, b => by
    rw [treeD_f (by rw [ofK_1 (by have := Nat.two_pow_pos d; rw [Nat.pow_succ]; omega)]; rfl)]
    exact (Jb _).2
theorem hidT_8 (ls : List Lf) (s : Nat × Nat) : (Xb ls s).length = 8 := tree_len8 ls _ _
theorem inSp1 {b : Nat} {k : Int} (h : XP (b, 1) k = true) : k = (b : Int) := by
  simp only [XP, Bool.and_eq_true, decide_eq_true_eq] at h
  omega
theorem idxS_hit {α : Type} {p : α → Bool} : ∀ (l : List α) (k : Nat), 0 ≤ Xw p l k → ∃ x, l[(Xw p l k).toNat - k]? = some x ∧ p x = true ∧ (k : Int) ≤ Xw p l k
  | [], k, h => by exact absurd h (by show ¬ (0 : Int) ≤ -1; decide)
  | x :: l, k, h => by
    unfold Xw at h ⊢
    split at h
    · rename_i hp
      rw [if_pos hp]
      exact ⟨x, by rw [show ((k : Int).toNat - k) = 0 by omega]; rfl, hp, Int.le_refl _⟩
    · rename_i hp
      rw [if_neg hp]
      obtain ⟨y, h1, h2, h3⟩ := idxS_hit l (k + 1) h
      refine ⟨y, ?_, h2, by omega⟩
      rw [show (Xw p l (k + 1)).toNat - k = ((Xw p l (k + 1)).toNat - (k + 1)) + 1 by omega]
      exact h1
theorem knR_miss {sp : List (Nat × Nat)} {hd : List (List Int)} {ls' : List Lf} {b m : Nat} (h : (b, m) ∉ sp) : knR sp hd ls' b m = ofK ls' b m := by
  refine knR_f fun h0 => ?_
  obtain ⟨x, h1, h2, _⟩ := idxS_hit sp 0 h0
  have e : x = (b, m) := of_decide_eq_true h2
  subst e
  exact h (Xl h1)
theorem ofK_one {ls : List Lf} {d b : Nat} : ofK ls b (2 ^ (d + 1)) = none := ofK_1 (by have := Nat.two_pow_pos d; rw [Nat.pow_succ]; omega)
theorem ofK_at {ls ls' : List Lf} {b m : Nat} (h : ls[b]? = ls'[b]?) : ofK ls b m = ofK ls' b m := by unfold ofK; rw [h]
theorem treeD_congr {kn kn' : Nat → Nat → Option (List Int)} : ∀ d b, (∀ c e, e ≤ d → b ≤ c → c + 2 ^ e ≤ b + 2 ^ d → kn c (2 ^ e) = kn' c (2 ^ e)) → Q4 kn d b = Q4 kn' d b
  | 0, b, h => by
    show (kn b (2 ^ 0)).getD [] = (kn' b (2 ^ 0)).getD []
    rw [h b 0 (Nat.le_refl _) (Nat.le_refl _) (Nat.le_refl _)]
  | d + 1, b, h => by
    have h0 := h b (d + 1) (Nat.le_refl _) (Nat.le_refl _) (Nat.le_refl _)
    have hp := pow2 d
    have h1 := treeD_congr (kn := kn) (kn' := kn') d b fun c e h1 h2 h3 => h c e (by omega) h2 (by omega)
    have h2 := treeD_congr (kn := kn) (kn' := kn') d (b + 2 ^ d) fun c e h1 h2 h3 => h c e (by omega) (by omega) (by omega)
    unfold Q4
    rw [h0, h1, h2]
theorem hidS_free {n : Nat} {w : List Int} : ∀ {d b : Nat} {s : Nat × Nat}, s ∈ QO n w d b → w.any (XP s) = false
  | d, b, s, h => by
    by_cases hb : n ≤ b
    · rw [hid_0 hb] at h; cases h
    · cases hw : w.any (XP (b, 2 ^ d)) with
      | false => rw [hid_1 hb hw, List.mem_singleton] at h; rw [h]; exact hw
      | true =>
        cases d with
        | zero => rw [hid_2 hb hw] at h; cases h
        | succ d =>
          rw [hid_3 hb hw] at h
          rcases List.mem_append.1 h with h | h
          · exact hidS_free h
          · exact hidS_free h
end Go.Proofs.YthfhaoogcpfboaaGreat
