/-
  Parts of the proof: VC VD VE VF VG VH VJ VK VL.
-/
import Derived.Test.YthfhaoogcpfboaaGreatK3
set_option linter.unusedVariables false
set_option linter.unusedSimpArgs false

/-! Walks: VC. -/
namespace Go.Proofs.YthfhaoogcpfboaaGreat
open Go.RowKit
set_option maxRecDepth 100000
set_option linter.unusedVariables false
/-- The digest of a subtree, where some are known. -/
def treeD (kn : Nat → Nat → Option (List Int)) : Nat → Nat → List Int
  | 0, b => (kn b 1).getD []
  | d + 1, b => if (kn b (2 ^ (d + 1))).isSome = true then (kn b (2 ^ (d + 1))).getD [] else innerS (treeD kn d b) (treeD kn d (b + 2 ^ d))
theorem treeD_t {kn : Nat → Nat → Option (List Int)} {d b : Nat} (h : (kn b (2 ^ d)).isSome = true) : treeD kn d b = (kn b (2 ^ d)).getD [] := by
  cases d with
  | zero => rfl
  | succ d => unfold treeD; rw [if_pos h]
theorem treeD_f {kn : Nat → Nat → Option (List Int)} {d b : Nat} (h : (kn b (2 ^ (d + 1))).isSome = false) : treeD kn (d + 1) b = innerS (treeD kn d b) (treeD kn d (b + 2 ^ d)) := by
  conv => lhs; unfold treeD
  rw [if_neg (by rw [h]; decide)]
structure KnOK (kn : Nat → Nat → Option (List Int)) : Prop where
  one : ∀ b, (kn b 1).isSome = true
  ok : ∀ b m x, kn b m = some x → B8 x ∧ x.length ≤ LIM
theorem KnOK.get {kn : Nat → Nat → Option (List Int)} (h : KnOK kn) {b m : Nat} (hs : (kn b m).isSome = true) : B8 ((kn b m).getD []) ∧ ((kn b m).getD []).length ≤ LIM := by
  obtain ⟨x, e⟩ := Option.isSome_iff_exists.1 hs
  rw [e]; exact h.ok b m x e
theorem KnOK.tree {kn : Nat → Nat → Option (List Int)} (h : KnOK kn) : ∀ d b, B8 (treeD kn d b) ∧ (treeD kn d b).length ≤ LIM
  | 0, b => h.get (h.one b)
  | d + 1, b => by
    cases hs : (kn b (2 ^ (d + 1))).isSome with
    | true => rw [treeD_t hs]; exact h.get hs
    | false => rw [treeD_f hs]; exact ⟨(dg_ok _).1, by rw [show (innerS _ _).length = 8 from (dg_ok _).2]; decide⟩
/-- What leaves tell of the tree. -/
def ofK (ls : List Lf) (b m : Nat) : Option (List Int) := if 1 < m then none else match ls[b]? with
  | some x => some (leafS (textS x))
  | none => some missS
theorem ofK_1 {ls : List Lf} {b m : Nat} (h : 1 < m) : ofK ls b m = none := by unfold ofK; rw [if_pos h]
theorem ofK_2 {ls : List Lf} {b m : Nat} (h : ¬ 1 < m) (hb : ls.length ≤ b) : ofK ls b m = some missS := by unfold ofK; rw [if_neg h, List.getElem?_eq_none hb]
theorem ofK_3 {ls : List Lf} {b m : Nat} {x : Lf} (h : ¬ 1 < m) (hb : ls[b]? = some x) : ofK ls b m = some (leafS (textS x)) := by unfold ofK; rw [if_neg h, hb]
theorem ofK_ok (ls : List Lf) : KnOK (ofK ls) where
  one b := by unfold ofK; rw [if_neg (by decide)]; split <;> rfl
  ok b m x h := by
    have key : ∀ l, B8 (digB l) ∧ (digB l).length ≤ LIM := fun l => ⟨(dg_ok l).1, by rw [(dg_ok l).2]; decide⟩
    unfold ofK at h
    split at h
    · cases h
    · split at h <;> (injection h with h; rw [← h]; exact key _)
def mcv68 : MC := (.seq (.reg [oN 1 (.box 27 1 (.t 0)) [], oN 2 (.mv (.c .nilf)) []] false) (.seq (.reg [oN 3 (.mkfn (.func 119) [(.t 1)]) [], oN 2 (.mv (.t 3)) [0, 0]] false) .ret))
theorem mcOkv68 : (match Tryz.f68.body with | some c => compC Tryz.prog 4 c | none => none) = some mcv68 := by kernel_rfl
theorem vc68 (ls : List Lf) : FC Tryz.prog 68 [.rs 5 (ls.map cLf)] [] (.fn (.func 119) [.rp [.rs 5 (ls.map cLf)]]) [] true := by
  refine fc_run (nt := 4) Tryz.func68 rfl rfl mcOkv68 (Nat.le_of_ble_eq_true rfl) ?_
  delta mcv68
  refine aw_seq (aw_reg (rs_box rfl rfl rfl rfl rfl rfl ?_))
  refine rs_mv rfl rfl ?_
  refine rs_nil fun _ => (th_n (aw_seq (aw_reg (rs_mkfn rfl rfl ?_))))
  refine rs_mv rfl rfl ?_
  refine rs_nil fun _ => (th_n (aw_ret ?_))
  exact ret_new rfl (rc_fnr (.cons (rc_pfrz rfl rfl (.inl rfl)) .nil)) .nil
def mcv119 : MC := (.seq (.reg [oN 2 (.box 110 2 (.t 0)) [], oN 3 (.mv (.c (.str (strN [])))) [], oN 4 (.mv (.c (.bool false))) [1]] false) (.seq (.block 0 (.seq (.reg [oN 6 (.fa 1 (.t 2)) [], oN 7 (.ld false 1 (.t 6)) [0], oN 8 (.bin .gtr (.t 7) (.c (.int .i64 1))) [1], oN 5 (.mv (.t 8)) [2]] false) (.cond (.t 5) (.seq (.reg [oN 3 (.mv (.c (.str (strN [])))) [], oN 4 (.mv (.c (.bool false))) [0, 0]] false) .ret) (.seq (.reg [oN 10 (.fa 0 (.t 2)) [], oN 11 (.ld false 1 (.t 10)) [0], oN 12 (.ld false 1 (.t 1)) [], oN 13 (.len (.t 12)) [2], oN 14 (.bin .geq (.t 11) (.t 13)) [1, 3], oN 9 (.mv (.t 14)) [4]] false) (.cond (.t 9) (.seq (.reg [oN 15 (.call 44 []) [], oN 3 (.mv (.t 15)) [0, 0, 0], oN 4 (.mv (.c (.bool true))) [1, 0, 1]] false) .ret) .skip))))) (.seq (.reg [oN 16 (.ld false 1 (.t 1)) [], oN 17 (.fa 0 (.t 2)) [], oN 18 (.ld false 1 (.t 17)) [1], oN 19 (.ixsl 5 (.t 16) (.t 18)) [0, 2], oN 20 (.ld true 5 (.t 19)) [3], oN 21 (.call 62 [(.t 20)]) [4], oN 22 (.call 41 [(.t 21)]) [5, 5], oN 3 (.mv (.t 22)) [6, 6, 0, 1, 2, 3, 4, 5, 6], oN 4 (.mv (.c (.bool true))) [7, 0, 1, 2, 3, 4, 5, 6, 7]] false) .ret)))
theorem mcOkv119 : (match Tryz.f119.body with | some c => compC Tryz.prog 23 c | none => none) = some mcv119 := by kernel_rfl
theorem vc119 (ls : List Lf) (hl : LsOK ls) (b m : Nat) : FC Tryz.prog 119 [.agg (cP b m), .rp [.rs 5 (ls.map cLf)]] [] (.tup [.str (strN ((ofK ls (b) (m)).getD [])), .bool (ofK ls (b) (m)).isSome]) [] false := by
  refine fc_run (nt := 23) Tryz.func119 rfl rfl mcOkv119 (Nat.le_of_ble_eq_true rfl) ?_
  delta mcv119
  refine aw_seq (aw_reg (rs_box rfl rfl rfl rfl rfl rfl ?_))
  refine rs_mv rfl rfl ?_
  refine rs_mv rfl rfl ?_
  refine rs_nil fun _ => (th_n (aw_seq (aw_block (aw_seq (aw_reg (rs_fa_p rfl rfl ?_))))))
  refine rs_ld_p rfl rfl rfl rfl rfl ?_
  refine rs_gtr rfl rfl rfl ?_
  refine rs_mv rfl rfl ?_
  refine rs_nil fun _ => (th_n (aw_cond rfl (fun h5 => ?_) (fun h5 => ?_)))
  · replace h5 := of_decide_eq_true h5
    refine aw_seq (aw_reg (rs_mv rfl rfl ?_))
    refine rs_mv rfl rfl ?_
    refine rs_nil fun _ => (th_n (aw_ret (in_r (th_r ?_))))
    rw [ofK_1 (by omega)]
    exact ret_pure rfl rfl rfl (.inr rfl)
  · replace h5 := of_decide_eq_false h5
    refine aw_seq (aw_reg (rs_fa_p rfl rfl ?_))
    refine rs_ld_p rfl rfl rfl rfl rfl ?_
    refine rs_ld_r rfl rfl rfl ?_
    refine rs_len_m rfl rfl ?_
    refine rs_geq rfl rfl rfl ?_
    refine rs_mv rfl rfl ?_
    refine rs_nil fun _ => (th_n (aw_cond rfl (fun h9 => ?_) (fun h9 => ?_)))
    · replace h9 := of_decide_eq_true h9
      refine aw_seq (aw_reg (rs_calln [] rfl rfl (vc44) (.nil) rfl ?_))
      refine rs_mv rfl rfl ?_
      refine rs_mv rfl rfl ?_
      refine rs_nil fun _ => (th_n (aw_ret (in_r (th_r ?_))))
      rw [ofK_2 (by omega) (by omega)]
      exact ret_pure rfl rfl rfl (.inr rfl)
    · replace h9 := of_decide_eq_false h9
      refine aw_skip (in_n (th_n (aw_seq ?_)))
      obtain ⟨x, hx, hxm⟩ := at_some (L := ls) (k := b) (by omega)
      refine aw_reg (rs_ld_r rfl rfl rfl ?_)
      refine rs_fa_p rfl rfl ?_
      refine rs_ld_p rfl rfl rfl rfl rfl ?_
      refine rs_ix_g (f := cLf) (y := x) rfl rfl rfl (by omega) hx ?_
      refine rs_ld_ra (cs := cLf x) rfl rfl (Nat.le_of_ble_eq_true rfl) rfl ?_
      refine rs_calln [] rfl rfl (vc62 x (hl.ok x hxm)) (.cons (hv_same rfl) (.nil)) rfl ?_
      refine rs_calln [] rfl rfl (vc41 (textS x) ⟨textS_8 (hl.ok x hxm).b, Nat.le_trans (textS_len (hl.ok x hxm).n) (by decide)⟩) (.cons (hv_same rfl) (.nil)) rfl ?_
      refine rs_mv rfl rfl ?_
      refine rs_mv rfl rfl ?_
      refine rs_nil fun _ => (th_n (aw_ret ?_))
      rw [ofK_3 (by omega) hx]
      exact ret_pure rfl rfl rfl (.inr rfl)
def as69 : MC := (.reg [oN 8 (.alloc 110 2 [(.int .i64 0), (.int .i64 0)]) [], ⟨none, (.st 2 (.t 8) (.t 19)), none, [0, 0]⟩] false)
def bd69 : MC := (.block 1 (.reg [oN 20 (.ld false 1 (.t 7)) [], oN 21 (.ld false 1 (.t 2)) [], oN 22 (.ld true 2 (.t 8)) [], oN 23 (.call 69 [(.t 21), (.t 22)]) [1, 2], oN 24 (.bslice 9 1 [(.str (strN []))] 1 [(0, (.t 23))]) [3], oN 25 (.app 9 1 16 [(.str (strN []))] (.t 20) (.t 24)) [0, 4, 3], ⟨none, (.st 1 (.t 7) (.t 25)), none, [5, 5, 0, 1, 2, 3, 4, 5]⟩] true))
theorem as69w1 (ls : List Lf) (kn : Nat → Nat → Option (List Int)) (d b c : Nat) (l : List (List Int)) (hc : c + 2 ^ d ≤ 64) (hl : l.length ≤ 1) (o : Loop) (lb : Nat) : AW Tryz.prog 33 [900, 7, 903] (some lb) as69 (fun e F' H' => e = .normal ∧ Weak 33 [900, 7, 903] F' H' [(8, .ptr 8 0 0), (7, .ptr 7 0 0), (2, .rp [(.fn (.func 119) [.rp [.rs 5 (ls.map cLf)]])])] [(900, .lp o [(18, .fn (.func 149) [.rp (cP b (2 ^ (d + 1)))]), (7, .ptr 7 0 0), (2, .rp [(.fn (.func 119) [.rp [.rs 5 (ls.map cLf)]])])]), (7, .cells 47 1 [[.sl 903 0 (l).length]] false), (903, .cells 9 1 ((l).map cS) true), (8, .cells 110 2 [cP c (2 ^ d)] true)]) [(19, .agg (cP c (2 ^ d))), (18, .fn (.func 149) [.rp (cP b (2 ^ (d + 1)))]), (7, .ptr 7 0 0), (2, .rp [(.fn (.func 119) [.rp [.rs 5 (ls.map cLf)]])])] [(900, .lp o [(18, .fn (.func 149) [.rp (cP b (2 ^ (d + 1)))]), (7, .ptr 7 0 0), (2, .rp [(.fn (.func 119) [.rp [.rs 5 (ls.map cLf)]])])]), (7, .cells 47 1 [[.sl 903 0 (l).length]] false), (903, .cells 9 1 ((l).map cS) true)] := by
  delta as69
  refine aw_reg ?_
  refine rs_alloc rfl rfl rfl ?_
  refine rs_st rfl rfl rfl rfl rfl rfl rfl (Nat.le_of_ble_eq_true rfl) rfl rfl ?_
  refine rs_nil fun _ => ?_
  exact ⟨rfl, weak_to (.cons rfl sm (.cons rfl sm (.cons rfl sm (.nil)))) (.keep (rfl) rfl (.keep (rfl) rfl (.keep (rfl) rfl (.keep (rfl) rfl (.nil))))) (fun i hi => by simp [keysOf] at hi ⊢; omega)⟩
theorem bd69w1 (ls : List Lf) (kn : Nat → Nat → Option (List Int)) (d b c : Nat) (l : List (List Int)) (hc : c + 2 ^ d ≤ 64) (hl : l.length ≤ 1) (ih : ∀ c, c + 2 ^ d ≤ 64 → FC Tryz.prog 69 [(.fn (.func 119) [.rp [.rs 5 (ls.map cLf)]]), .agg (cP c (2 ^ d))] [] (.str (strN (treeD kn d c))) [] false) (o : Loop) (lb : Nat) : AW Tryz.prog 33 [900, 7, 903] (some lb) bd69 (fun e F' H' => e = .normal ∧ Weak 33 [900, 7, 903] F' H' [] [(900, .lp o [(18, .fn (.func 149) [.rp (cP b (2 ^ (d + 1)))]), (7, .ptr 7 0 0), (2, .rp [(.fn (.func 119) [.rp [.rs 5 (ls.map cLf)]])])]), (7, .cells 47 1 [[.sl 25 0 (l ++ [treeD kn d c]).length]] false), (25, .cells 9 1 ((l ++ [treeD kn d c]).map cS) true), (903, .dead)]) [(8, .ptr 8 0 0), (7, .ptr 7 0 0), (2, .rp [(.fn (.func 119) [.rp [.rs 5 (ls.map cLf)]])])] [(900, .lp o [(18, .fn (.func 149) [.rp (cP b (2 ^ (d + 1)))]), (7, .ptr 7 0 0), (2, .rp [(.fn (.func 119) [.rp [.rs 5 (ls.map cLf)]])])]), (7, .cells 47 1 [[.sl 903 0 (l).length]] false), (903, .cells 9 1 ((l).map cS) true), (8, .cells 110 2 [cP c (2 ^ d)] true)] := by
  delta bd69
  refine aw_block ?_
  refine aw_draw hmix ?_
  refine rs_ld_p rfl rfl rfl rfl rfl ?_
  refine rs_ld_r rfl rfl rfl ?_
  refine rs_ld_pa rfl rfl rfl rfl (Nat.le_of_ble_eq_true rfl) rfl ?_
  refine rs_calln [] rfl rfl (ih c hc) (.cons (hv_same rfl) (.cons (hv_same rfl) (.nil))) rfl ?_
  refine rs_bslice (l := (([treeD kn d c] : List (List Int))).flatMap cS) (els := (([treeD kn d c] : List (List Int))).map cS) (fl := true) rfl (by kernel_rfl) rfl rfl (by kernel_rfl) (by kernel_rfl) ?_
  refine rs_app_m (f := cS) (xs := l) (y := treeD kn d c) (fl' := true) rfl rfl rfl rfl rfl rfl rfl rfl (by decide) rfl (by omega) (by omega) rfl ?_
  refine rs_st rfl rfl rfl rfl rfl rfl rfl (Nat.le_of_ble_eq_true rfl) rfl rfl ?_
  refine rs_nil ⟨by kernel_rfl, fun _ => ?_⟩
  refine in_n ?_
  exact ⟨rfl, weak_to (.nil) (.keep (rfl) rfl (.keep (by rw [len_snoc]; rfl) rfl (.keep (rfl) rfl (.keep (rfl) rfl (.nil))))) (fun i hi => by simp [keysOf] at hi ⊢; omega)⟩
theorem y69_1 (ls : List Lf) (kn : Nat → Nat → Option (List Int)) (d b c : Nat) (l : List (List Int)) (hc : c + 2 ^ d ≤ 64) (hl : l.length ≤ 1) (ih : ∀ c, c + 2 ^ d ≤ 64 → FC Tryz.prog 69 [(.fn (.func 119) [.rp [.rs 5 (ls.map cLf)]]), .agg (cP c (2 ^ d))] [] (.str (strN (treeD kn d c))) [] false) (r0 : Loop) (h : Rec0 Tryz.prog 33 [19] as69 bd69 r0) :
    FCg (yieldSem Tryz.prog) [.yl 900, .agg (cP c (2 ^ d))] [(900, .lp r0 [(18, .fn (.func 149) [.rp (cP b (2 ^ (d + 1)))]), (7, .ptr 7 0 0), (2, .rp [(.fn (.func 119) [.rp [.rs 5 (ls.map cLf)]])])]), (7, .cells 47 1 [[.sl 903 0 (l).length]] false), (903, .cells 9 1 ((l).map cS) true)] (.bool true) [(900, .lp r0 [(18, .fn (.func 149) [.rp (cP b (2 ^ (d + 1)))]), (7, .ptr 7 0 0), (2, .rp [(.fn (.func 119) [.rp [.rs 5 (ls.map cLf)]])])]), (7, .cells 47 1 [[.sl 25 0 (l ++ [treeD kn d c]).length]] false), (25, .cells 9 1 ((l ++ [treeD kn d c]).map cS) true), (903, .dead)] true := by
  have := round_yield (P := Tryz.prog) (F := [(18, .fn (.func 149) [.rp (cP b (2 ^ (d + 1)))]), (7, .ptr 7 0 0), (2, .rp [(.fn (.func 119) [.rp [.rs 5 (ls.map cLf)]])])]) (N := 33) (x := as69) (y := bd69) h.ca h.cb (li := 900) (ps := [19]) (vs := [.agg (cP c (2 ^ d))]) (J := [(7, .cells 47 1 [[.sl 903 0 (l).length]] false), (903, .cells 9 1 ((l).map cS) true)]) (J1 := [(7, .cells 47 1 [[.sl 903 0 (l).length]] false), (903, .cells 9 1 ((l).map cS) true), (8, .cells 110 2 [cP c (2 ^ d)] true)]) (J' := [(7, .cells 47 1 [[.sl 25 0 (l ++ [treeD kn d c]).length]] false), (25, .cells 9 1 ((l ++ [treeD kn d c]).map cS) true), (903, .dead)]) (Fb := [(8, .ptr 8 0 0), (7, .ptr 7 0 0), (2, .rp [(.fn (.func 119) [.rp [.rs 5 (ls.map cLf)]])])]) (Z0 := [900, 7, 903]) .normal none (.inl ⟨rfl, rfl⟩)
    rfl rfl (fun i hi => mem_keys.1 hi) (by simp) (fun i h => mem_keys.2 h) (fun i hi => mem_keys.1 (by simp [keysOf] at hi ⊢; omega)) h.state h.params rfl rfl h.size (fun t v h => get_mem h) (fun lb o => as69w1 ls kn d b c l hc hl o lb) (fun lb o => bd69w1 ls kn d b c l hc hl ih o lb)
  rw [rec_same h.state h.pending] at this
  exact this
theorem vc149d1 (ls : List Lf) (kn : Nat → Nat → Option (List Int)) (d b : Nat) (hb : b + 2 ^ (d + 1) ≤ 64) (r0 : Loop) (hy : ∀ (c : Nat) (l : List (List Int)), c + 2 ^ d ≤ 64 → l.length ≤ 1 → FCg (yieldSem Tryz.prog) [.yl 900, .agg (cP c (2 ^ d))] [(900, .lp r0 [(18, .fn (.func 149) [.rp (cP b (2 ^ (d + 1)))]), (7, .ptr 7 0 0), (2, .rp [(.fn (.func 119) [.rp [.rs 5 (ls.map cLf)]])])]), (7, .cells 47 1 [[.sl 903 0 (l).length]] false), (903, .cells 9 1 ((l).map cS) true)] (.bool true) [(900, .lp r0 [(18, .fn (.func 149) [.rp (cP b (2 ^ (d + 1)))]), (7, .ptr 7 0 0), (2, .rp [(.fn (.func 119) [.rp [.rs 5 (ls.map cLf)]])])]), (7, .cells 47 1 [[.sl 25 0 (l ++ [treeD kn d c]).length]] false), (25, .cells 9 1 ((l ++ [treeD kn d c]).map cS) true), (903, .dead)] true) : FC Tryz.prog 149 [.yl 900, .rp (cP b (2 ^ (d + 1)))] [(900, .lp r0 [(18, .fn (.func 149) [.rp (cP b (2 ^ (d + 1)))]), (7, .ptr 7 0 0), (2, .rp [(.fn (.func 119) [.rp [.rs 5 (ls.map cLf)]])])]), (7, .cells 47 1 [[.sl 901 0 (([] : List (List Int))).length]] false), (901, .cells 9 1 ((([] : List (List Int))).map cS) true)] (.tup []) [(900, .lp r0 [(18, .fn (.func 149) [.rp (cP b (2 ^ (d + 1)))]), (7, .ptr 7 0 0), (2, .rp [(.fn (.func 119) [.rp [.rs 5 (ls.map cLf)]])])]), (7, .cells 47 1 [[.sl 903 0 (([] ++ [treeD kn d b] ++ [treeD kn d (b + 2 ^ d)] : List (List Int))).length]] false), (903, .cells 9 1 ((([] ++ [treeD kn d b] ++ [treeD kn d (b + 2 ^ d)] : List (List Int))).map cS) true), (901, .dead)] true := by
  have hpw := pow2 d
  refine fc_run (nt := 21) Tryz.func149 rfl rfl mcOkv149 (Nat.le_of_ble_eq_true rfl) ?_
  delta mcv149
  refine aw_post ?_
  refine aw_seq (aw_reg (rs_fa_r rfl rfl rfl ?_))
  refine rs_ld_r rfl rfl rfl ?_
  refine rs_quow rfl rfl rfl (by decide) (quo2W hpw (by omega)) ?_
  refine rs_mv rfl rfl ?_
  refine rs_nil fun _ => (th_n (aw_seq (aw_weak (F0 := [(0, .yl 900), (1, .rp (cP b (2 ^ (d + 1)))), (3, iv ((2 ^ d : Nat) : Int))]) (H0 := [(900, .lp r0 [(18, .fn (.func 149) [.rp (cP b (2 ^ (d + 1)))]), (7, .ptr 7 0 0), (2, .rp [(.fn (.func 119) [.rp [.rs 5 (ls.map cLf)]])])]), (7, .cells 47 1 [[.sl 903 0 (([] : List (List Int))).length]] false), (903, .cells 9 1 ((([] : List (List Int))).map cS) true), (901, .dead)]) (Weak.trans (F1 := [(0, .yl 900), (1, .rp (cP b (2 ^ (d + 1)))), (3, iv ((2 ^ d : Nat) : Int))]) (H1 := [(900, .lp r0 [(18, .fn (.func 149) [.rp (cP b (2 ^ (d + 1)))]), (7, .ptr 7 0 0), (2, .rp [(.fn (.func 119) [.rp [.rs 5 (ls.map cLf)]])])]), (7, .cells 47 1 [[.sl 901 0 (([] : List (List Int))).length]] false), (901, .cells 9 1 ((([] : List (List Int))).map cS) true)]) (weak_to (.cons rfl sm (.cons rfl sm (.cons rfl sm (.nil)))) (.keep (rfl) rfl (.keep (rfl) rfl (.keep (rfl) rfl (.nil)))) (fun i hi => by simp [keysOf] at hi ⊢; omega)) (Weak.trans (F1 := [(0, .yl 900), (1, .rp (cP b (2 ^ (d + 1)))), (3, iv ((2 ^ d : Nat) : Int))]) (weak_ren_cell (i := 901) (i' := 903) (k := 7) rfl rfl (.cons rfl (.same _) (.cons rfl (.same _) (.cons rfl (.same _) (.nil)))) (by decide) rfl (.sl _ _)) (weak_to (.cons rfl sm (.cons rfl sm (.cons rfl sm (.nil)))) (.keep (rfl) rfl (.keep (rfl) rfl (.keep (rfl) rfl (.keep (rfl) rfl (.nil))))) (fun i hi => by simp [keysOf] at hi ⊢; omega)))) ?_)))
  refine aw_reg (rs_mv rfl rfl ?_)
  refine rs_fa_r rfl rfl rfl ?_
  refine rs_ld_r rfl rfl rfl ?_
  refine rs_mv rfl rfl ?_
  refine rs_build rfl rfl ?_
  refine rs_yield [(900, .lp r0 [(18, .fn (.func 149) [.rp (cP b (2 ^ (d + 1)))]), (7, .ptr 7 0 0), (2, .rp [(.fn (.func 119) [.rp [.rs 5 (ls.map cLf)]])])]), (7, .cells 47 1 [[.sl 903 0 (([] : List (List Int))).length]] false), (903, .cells 9 1 ((([] : List (List Int))).map cS) true)] rfl rfl rfl (hy b [] (by omega) (by simp)) (.cons (hv_same rfl) (.cons (hv_same rfl) (.nil))) (.cons rfl (.cons rfl (.cons rfl (.nil)))) rfl rfl rfl ?_
  refine rs_nil fun _ => (th_n (aw_cond rfl (fun _ => ?_) (fun h => by cases h)))
  refine aw_weak (F0 := [(0, .yl 900), (1, .rp (cP b (2 ^ (d + 1)))), (3, iv ((2 ^ d : Nat) : Int))]) (H0 := [(900, .lp r0 [(18, .fn (.func 149) [.rp (cP b (2 ^ (d + 1)))]), (7, .ptr 7 0 0), (2, .rp [(.fn (.func 119) [.rp [.rs 5 (ls.map cLf)]])])]), (7, .cells 47 1 [[.sl 903 0 (([] ++ [treeD kn d b] : List (List Int))).length]] false), (903, .cells 9 1 ((([] ++ [treeD kn d b] : List (List Int))).map cS) true), (901, .dead)]) (Weak.trans (F1 := [(0, .yl 900), (1, .rp (cP b (2 ^ (d + 1)))), (3, iv ((2 ^ d : Nat) : Int))]) (H1 := [(900, .lp r0 [(18, .fn (.func 149) [.rp (cP b (2 ^ (d + 1)))]), (7, .ptr 7 0 0), (2, .rp [(.fn (.func 119) [.rp [.rs 5 (ls.map cLf)]])])]), (7, .cells 47 1 [[.sl 25 0 (([] ++ [treeD kn d b] : List (List Int))).length]] false), (25, .cells 9 1 ((([] ++ [treeD kn d b] : List (List Int))).map cS) true), (901, .dead)]) (weak_to (.cons rfl sm (.cons rfl sm (.cons rfl sm (.nil)))) (.keep (rfl) rfl (.keep (rfl) rfl (.keep (rfl) rfl (.keep (rfl) rfl (.nil))))) (fun i hi => by simp [keysOf] at hi ⊢; omega)) (Weak.trans (F1 := [(0, .yl 900), (1, .rp (cP b (2 ^ (d + 1)))), (3, iv ((2 ^ d : Nat) : Int))]) (weak_ren_cell (i := 25) (i' := 903) (k := 7) rfl rfl (.cons rfl (.same _) (.cons rfl (.same _) (.cons rfl (.same _) (.nil)))) (by decide) rfl (.sl _ _)) (weak_to (.cons rfl sm (.cons rfl sm (.cons rfl sm (.nil)))) (.keep (rfl) rfl (.keep (rfl) rfl (.keep (rfl) rfl (.keep (rfl) rfl (.nil))))) (fun i hi => by simp [keysOf] at hi ⊢; omega)))) ?_
  refine aw_reg (rs_mv rfl rfl ?_)
  refine rs_fa_r rfl rfl rfl ?_
  refine rs_ld_r rfl rfl rfl ?_
  refine rs_mv rfl rfl ?_
  refine rs_addw (c := ((b + 2 ^ d : Nat) : Int)) rfl rfl rfl (addNW (by omega)) ?_
  refine rs_mv rfl rfl ?_
  refine rs_build rfl rfl ?_
  refine rs_yield [(900, .lp r0 [(18, .fn (.func 149) [.rp (cP b (2 ^ (d + 1)))]), (7, .ptr 7 0 0), (2, .rp [(.fn (.func 119) [.rp [.rs 5 (ls.map cLf)]])])]), (7, .cells 47 1 [[.sl 903 0 (([] ++ [treeD kn d b] : List (List Int))).length]] false), (903, .cells 9 1 ((([] ++ [treeD kn d b] : List (List Int))).map cS) true)] rfl rfl rfl (hy (b + 2 ^ d) ([] ++ [treeD kn d b] : List (List Int)) (by omega) (by simp)) (.cons (hv_same rfl) (.cons (hv_same rfl) (.nil))) (.cons rfl (.cons rfl (.cons rfl (.nil)))) rfl rfl rfl ?_
  refine rs_nil fun _ => ?_
  exact ⟨[], [(900, .lp r0 [(18, .fn (.func 149) [.rp (cP b (2 ^ (d + 1)))]), (7, .ptr 7 0 0), (2, .rp [(.fn (.func 119) [.rp [.rs 5 (ls.map cLf)]])])]), (7, .cells 47 1 [[.sl 903 0 (([] ++ [treeD kn d b] ++ [treeD kn d (b + 2 ^ d)] : List (List Int))).length]] false), (903, .cells 9 1 ((([] ++ [treeD kn d b] ++ [treeD kn d (b + 2 ^ d)] : List (List Int))).map cS) true), (901, .dead)], (Weak.trans (F1 := []) (H1 := [(900, .lp r0 [(18, .fn (.func 149) [.rp (cP b (2 ^ (d + 1)))]), (7, .ptr 7 0 0), (2, .rp [(.fn (.func 119) [.rp [.rs 5 (ls.map cLf)]])])]), (7, .cells 47 1 [[.sl 25 0 (([] ++ [treeD kn d b] ++ [treeD kn d (b + 2 ^ d)] : List (List Int))).length]] false), (25, .cells 9 1 ((([] ++ [treeD kn d b] ++ [treeD kn d (b + 2 ^ d)] : List (List Int))).map cS) true), (901, .dead)]) (weak_to (.nil) (.keep (rfl) rfl (.keep (rfl) rfl (.keep (rfl) rfl (.keep (rfl) rfl (.nil))))) (fun i hi => by simp [keysOf] at hi ⊢; omega)) (Weak.trans (F1 := []) (weak_ren_cell (i := 25) (i' := 903) (k := 7) rfl rfl (.nil) (by decide) rfl (.sl _ _)) (weak_to (.nil) (.keep (rfl) rfl (.keep (rfl) rfl (.keep (rfl) rfl (.keep (rfl) rfl (.nil))))) (fun i hi => by simp [keysOf] at hi ⊢; omega)))), ret_own_e (.inl rfl) rfl sm (.keep (rfl) rfl (.keep (rfl) rfl (.keep (rfl) rfl (.keep (rfl) rfl (.nil))))) (.cons rfl rfl rfl (.cons rfl rfl rfl (.dead rfl rfl (.nil))))⟩
def mcv69 : MC := (.seq (.reg [oN 2 (.box 112 1 (.t 0)) [], oN 3 (.box 110 2 (.t 1)) [], oN 4 (.mv (.c (.str (strN [])))) []] false) (.seq (.seq (.reg [oN 10 (.ld false 1 (.t 2)) [], oN 11 (.ld true 2 (.t 3)) [], oN 12 (.callv (.t 10) [(.t 11)]) [0, 1], oN 9 (.mv (.t 12)) [2], oN 13 (.ext (.t 9) 0) [3], oN 14 (.ext (.t 9) 1) [3], oN 5 (.mv (.t 13)) [4, 2, 0, 1, 2, 3, 4], oN 6 (.mv (.t 14)) [5, 6, 0, 1, 2, 3, 4, 5, 6]] false) (.seq (.reg [oN 15 (.mv (.t 6)) []] false) (.cond (.t 15) (.seq (.reg [oN 16 (.mv (.t 5)) [], oN 4 (.mv (.t 16)) [0, 0]] false) .ret) .skip))) (.seq (.reg [oN 7 (.alloc 47 1 [.nils]) []] false) (.seq (.seq (.reg [oN 17 (.ld true 2 (.t 3)) [], oN 18 (.call 118 [(.t 17)]) [0]] false) (.block 0 (.rfunc (.t 18) [19] (.reg [oN 8 (.alloc 110 2 [(.int .i64 0), (.int .i64 0)]) [], ⟨none, (.st 2 (.t 8) (.t 19)), none, [0, 0]⟩] false) (.block 1 (.reg [oN 20 (.ld false 1 (.t 7)) [], oN 21 (.ld false 1 (.t 2)) [], oN 22 (.ld true 2 (.t 8)) [], oN 23 (.call 69 [(.t 21), (.t 22)]) [1, 2], oN 24 (.bslice 9 1 [(.str (strN []))] 1 [(0, (.t 23))]) [3], oN 25 (.app 9 1 16 [(.str (strN []))] (.t 20) (.t 24)) [0, 4, 3], ⟨none, (.st 1 (.t 7) (.t 25)), none, [5, 5, 0, 1, 2, 3, 4, 5]⟩] true))))) (.seq (.reg [oN 26 (.ld false 1 (.t 7)) [], oN 27 (.ixsl 1 (.t 26) (.c (.int .i64 0))) [0], oN 28 (.ld false 1 (.t 27)) [1], oN 29 (.ld false 1 (.t 7)) [], oN 30 (.ixsl 1 (.t 29) (.c (.int .i64 1))) [3], oN 31 (.ld false 1 (.t 30)) [4], oN 32 (.call 43 [(.t 28), (.t 31)]) [2, 5], oN 4 (.mv (.t 32)) [6, 6, 0, 1, 2, 3, 4, 5, 6]] true) .ret)))))
theorem mcOkv69 : (match Tryz.f69.body with | some c => compC Tryz.prog 33 c | none => none) = some mcv69 := by kernel_rfl
theorem vc69_01 (ls : List Lf) (kn : Nat → Nat → Option (List Int)) (hkn : KnOK kn) (hkf : ∀ b m, b + m ≤ 64 → FC Tryz.prog 119 [.agg (cP b m), .rp [.rs 5 (ls.map cLf)]] [] (.tup [.str (strN ((kn (b) (m)).getD [])), .bool (kn (b) (m)).isSome]) [] false) (b : Nat) (hb : b + 2 ^ 0 ≤ 64) : FC Tryz.prog 69 [(.fn (.func 119) [.rp [.rs 5 (ls.map cLf)]]), .agg (cP b (2 ^ 0))] [] (.str (strN (treeD kn 0 b))) [] false := by
  have hs := hkn.one b
  refine fc_run (nt := 33) Tryz.func69 rfl rfl mcOkv69 (Nat.le_of_ble_eq_true rfl) ?_
  delta mcv69
  refine aw_seq (aw_reg (rs_box rfl rfl rfl rfl rfl rfl ?_))
  refine rs_box rfl rfl rfl rfl rfl rfl ?_
  refine rs_mv rfl rfl ?_
  refine rs_nil fun _ => (th_n (aw_seq (aw_seq (aw_reg (rs_ld_p rfl rfl rfl rfl rfl ?_)))))
  refine rs_ld_pa rfl rfl rfl rfl (Nat.le_of_ble_eq_true rfl) rfl ?_
  refine rs_callvo [] rfl rfl (by kernel_rfl) rfl (fc_up (hkf b (2 ^ (0)) (by omega))) (.cons (hv_same rfl) (.cons (hv_same rfl) (.nil))) .nil rfl rfl rfl ?_
  refine rs_mv rfl rfl ?_
  refine rs_ext rfl rfl rfl ?_
  refine rs_ext rfl rfl rfl ?_
  rw [show kn b (2 ^ 0) = kn b 1 from rfl, hs]
  refine rs_mv rfl rfl ?_
  refine rs_mv rfl rfl ?_
  refine rs_nil fun _ => (th_n (aw_seq (aw_reg (rs_mv rfl rfl ?_))))
  refine rs_nil fun _ => (th_n (aw_cond rfl (fun _ => ?_) (fun h => by cases h)))
  refine aw_seq (aw_reg (rs_mv rfl rfl ?_))
  refine rs_mv rfl rfl ?_
  refine rs_nil fun _ => (th_n (aw_ret (th_r ?_)))
  exact ret_pure rfl rfl rfl (.inr rfl)
theorem vc69_s1 (ls : List Lf) (kn : Nat → Nat → Option (List Int)) (hkn : KnOK kn) (hkf : ∀ b m, b + m ≤ 64 → FC Tryz.prog 119 [.agg (cP b m), .rp [.rs 5 (ls.map cLf)]] [] (.tup [.str (strN ((kn (b) (m)).getD [])), .bool (kn (b) (m)).isSome]) [] false) (d b : Nat) (hb : b + 2 ^ (d + 1) ≤ 64) (ih : ∀ c, c + 2 ^ d ≤ 64 → FC Tryz.prog 69 [(.fn (.func 119) [.rp [.rs 5 (ls.map cLf)]]), .agg (cP c (2 ^ d))] [] (.str (strN (treeD kn d c))) [] false) : FC Tryz.prog 69 [(.fn (.func 119) [.rp [.rs 5 (ls.map cLf)]]), .agg (cP b (2 ^ (d + 1)))] [] (.str (strN (treeD kn (d + 1) b))) [] false := by
  have h8a := hkn.tree d b
  have h8b := hkn.tree d (b + 2 ^ d)
  refine fc_run (nt := 33) Tryz.func69 rfl rfl mcOkv69 (Nat.le_of_ble_eq_true rfl) ?_
  delta mcv69
  refine aw_seq (aw_reg (rs_box rfl rfl rfl rfl rfl rfl ?_))
  refine rs_box rfl rfl rfl rfl rfl rfl ?_
  refine rs_mv rfl rfl ?_
  refine rs_nil fun _ => (th_n (aw_seq (aw_seq (aw_reg (rs_ld_p rfl rfl rfl rfl rfl ?_)))))
  refine rs_ld_pa rfl rfl rfl rfl (Nat.le_of_ble_eq_true rfl) rfl ?_
  refine rs_callvo [] rfl rfl (by kernel_rfl) rfl (fc_up (hkf b (2 ^ (d + 1)) (by omega))) (.cons (hv_same rfl) (.cons (hv_same rfl) (.nil))) .nil rfl rfl rfl ?_
  refine rs_mv rfl rfl ?_
  refine rs_ext rfl rfl rfl ?_
  refine rs_ext rfl rfl rfl ?_
  cases h14 : (kn b (2 ^ (d + 1))).isSome
  · skip
    refine rs_mv rfl rfl ?_
    refine rs_mv rfl rfl ?_
    refine rs_nil fun _ => (th_n (aw_seq (aw_reg (rs_mv rfl rfl ?_))))
    refine rs_nil fun _ => (th_n (aw_cond rfl (fun h => by cases h) (fun _ => ?_)))
    refine aw_skip (th_n (aw_seq (aw_reg (rs_alloc rfl rfl rfl ?_))))
    refine rs_nil fun _ => (th_n (aw_seq (aw_seq (aw_reg (rs_ld_pa rfl rfl rfl rfl (Nat.le_of_ble_eq_true rfl) rfl ?_)))))
    refine rs_callo [] rfl rfl (vc118 (b, 2 ^ (d + 1))) (.cons (hv_same rfl) .nil) .nil rfl rfl rfl ?_
    refine rs_nil fun _ => (th_n (aw_block (aw_weak (F0 := [(18, .fn (.func 149) [.rp (cP b (2 ^ (d + 1)))]), (7, .ptr 7 0 0), (2, .rp [(.fn (.func 119) [.rp [.rs 5 (ls.map cLf)]])])]) (H0 := [(7, .cells 47 1 [[.sl 901 0 (([] : List (List Int))).length]] false), (901, .cells 9 1 ((([] : List (List Int))).map cS) true)]) (Weak.trans (F1 := [(18, .fn (.func 149) [.rp (cP b (2 ^ (d + 1)))]), (7, .ptr 7 0 0), (2, .rp [(.fn (.func 119) [.rp [.rs 5 (ls.map cLf)]])])]) (H1 := [(7, .cells 47 1 [[.nils]] true)]) (weak_to (.cons rfl sm (.cons rfl sm (.cons rfl (rc_pfrz rfl rfl (.inl rfl)) (.nil)))) (.keep (rfl) rfl (.nil)) (fun i h => by cases h)) (Weak.trans (F1 := [(18, .fn (.func 149) [.rp (cP b (2 ^ (d + 1)))]), (7, .ptr 7 0 0), (2, .rp [(.fn (.func 119) [.rp [.rs 5 (ls.map cLf)]])])]) (weak_seed (i := 901) (k := 7) (e := 47) (z := 1) (e2 := 9) (z2 := 1) (fl := true) (fl2 := true) rfl rfl) (weak_to (.cons rfl sm (.cons rfl sm (.cons rfl sm (.nil)))) (.keep (rfl) rfl (.keep (rfl) rfl (.nil))) (fun i h => by cases h)))) ?_)))
    refine aw_rfunc 900 [(7, .cells 47 1 [[.sl 901 0 (([] : List (List Int))).length]] false), (901, .cells 9 1 ((([] : List (List Int))).map cS) true)] [(7, .cells 47 1 [[.sl 903 0 (([] ++ [treeD kn d b] ++ [treeD kn d (b + 2 ^ d)] : List (List Int))).length]] false), (903, .cells 9 1 ((([] ++ [treeD kn d b] ++ [treeD kn d (b + 2 ^ d)] : List (List Int))).map cS) true), (901, .dead)] (.inl ⟨rfl, rfl⟩) rfl (by kernel_rfl) rfl rfl rfl (.cons rfl (.cons rfl (.nil))) rfl rfl rfl rfl (fun r0 hrec => ⟨r0, (by rw [hrec.state]; intro h; cases h), hrec.pending, vc149d1 ls kn d b hb r0 (fun c l hc hl => y69_1 ls kn d b c l hc hl ih r0 hrec)⟩) ?_
    refine in_n (th_n (aw_seq (aw_draw hmix ?_)))
    refine rs_ld_p rfl rfl rfl rfl rfl ?_
    refine rs_ix_s rfl rfl rfl rfl (by decide) (by simp) ?_
    refine rs_ld_p rfl rfl rfl rfl rfl ?_
    refine rs_ld_p rfl rfl rfl rfl rfl ?_
    refine rs_ix_s rfl rfl rfl rfl (by decide) (by simp) ?_
    refine rs_ld_p rfl rfl rfl rfl rfl ?_
    refine rs_calln [] rfl rfl (vc43 (treeD kn d b) (treeD kn d (b + 2 ^ d)) h8a h8b) (.cons (hv_same rfl) (.cons (hv_same rfl) (.nil))) rfl ?_
    refine rs_mv rfl rfl ?_
    refine rs_nil ⟨by kernel_rfl, fun _ => ?_⟩
    refine th_n (aw_ret ?_)
    rw [treeD_f h14]
    exact ret_pure rfl rfl rfl (.inr rfl)
  · skip
    refine rs_mv rfl rfl ?_
    refine rs_mv rfl rfl ?_
    refine rs_nil fun _ => (th_n (aw_seq (aw_reg (rs_mv rfl rfl ?_))))
    refine rs_nil fun _ => (th_n (aw_cond rfl (fun _ => ?_) (fun h => by cases h)))
    refine aw_seq (aw_reg (rs_mv rfl rfl ?_))
    refine rs_mv rfl rfl ?_
    refine rs_nil fun _ => (th_n (aw_ret (th_r ?_)))
    rw [treeD_t h14]
    exact ret_pure rfl rfl rfl (.inr rfl)
theorem vc69_1 (ls : List Lf) (kn : Nat → Nat → Option (List Int)) (hkn : KnOK kn) (hkf : ∀ b m, b + m ≤ 64 → FC Tryz.prog 119 [.agg (cP b m), .rp [.rs 5 (ls.map cLf)]] [] (.tup [.str (strN ((kn (b) (m)).getD [])), .bool (kn (b) (m)).isSome]) [] false) : ∀ (d b : Nat), b + 2 ^ d ≤ 64 → FC Tryz.prog 69 [(.fn (.func 119) [.rp [.rs 5 (ls.map cLf)]]), .agg (cP b (2 ^ d))] [] (.str (strN (treeD kn d b))) [] false
  | 0, b, hb => vc69_01 ls kn hkn hkf b hb
  | d + 1, b, hb => vc69_s1 ls kn hkn hkf d b hb fun c hc => vc69_1 ls kn hkn hkf d c hc
end Go.Proofs.YthfhaoogcpfboaaGreat

/-! Walks: VD. -/
namespace Go.Proofs.YthfhaoogcpfboaaGreat
open Go.RowKit
set_option maxRecDepth 100000
set_option linter.unusedVariables false
instance : Inhabited Lf := ⟨⟨0, 0, false, false, []⟩⟩
structure Shn where
  size : Int
  leaves : List Lf
  hid : List (List Int)
  deriving DecidableEq
abbrev cSh (s : Shn) : List AV := [.int .i64 s.size, .rs 5 (s.leaves.map cLf), .rs 1 (s.hid.map cS)]
def selF (ls : List Lf) (i : Int) : Lf := ls.getD i.toNat default
theorem selF_at {ls : List Lf} {i : Int} {x : Lf} (h : ls[i.toNat]? = some x) : selF ls i = x := by unfold selF; rw [List.getD_eq_getElem?_getD, h]; rfl
/-- The digest of a hidden subtree. -/
def hidT (ls : List Lf) (s : Nat × Nat) : List Int := treeD (ofK ls) (lg s.2) s.1
def showS (ls : List Lf) (w : List Int) : Shn := ⟨ls.length, w.map (selF ls), (hidA ls.length w).map (hidT ls)⟩
theorem lg_pow {e : Nat} (h : e ≤ 6) : lg (2 ^ e) = e := by
  have : ∀ e : Fin 7, lg (2 ^ e.val) = e.val := by decide
  exact this ⟨e, by omega⟩
theorem lg_6 (n : Nat) : lg n ≤ 6 := by
  unfold lg
  (repeat' split) <;> decide
theorem hid1_mem {n : Nat} {w : List Int} {b d : Nat} {r : List (Nat × Nat)} {s : Nat × Nat} (h : s ∈ hid1 n w b d r) : s ∈ r ∨ (s = (b, 2 ^ d) ∧ b < n) := by
  unfold hid1 at h
  split at h
  · cases h
  · split at h
    · exact .inl h
    · exact .inr ⟨List.mem_singleton.1 h, by omega⟩
theorem hidS_mem {n : Nat} {w : List Int} : ∀ {d b : Nat} {s : Nat × Nat}, s ∈ hidS n w d b → ∃ c e, s = (c, 2 ^ e) ∧ e ≤ d ∧ b ≤ c ∧ c + 2 ^ e ≤ b + 2 ^ d ∧ c < n
  | 0, b, s, h => (hid1_mem h).elim (fun h => by cases h) fun h => ⟨b, 0, h.1, Nat.le_refl _, Nat.le_refl _, Nat.le_refl _, h.2⟩
  | d + 1, b, s, h => by
    have := pow2 d
    rcases hid1_mem h with h | h
    · rcases List.mem_append.1 h with h | h
      · obtain ⟨c, e, h1, h2, h3, h4, h5⟩ := hidS_mem h
        exact ⟨c, e, h1, by omega, h3, by omega, h5⟩
      · obtain ⟨c, e, h1, h2, h3, h4, h5⟩ := hidS_mem h
        exact ⟨c, e, h1, by omega, by omega, by omega, h5⟩
    · exact ⟨b, d + 1, h.1, Nat.le_refl _, Nat.le_refl _, Nat.le_refl _, h.2⟩
theorem hidA_mem {n : Nat} {w : List Int} (hn : n ≤ 16) {s : Nat × Nat} (h : s ∈ hidA n w) : ∃ c e, s = (c, 2 ^ e) ∧ e ≤ 6 ∧ c + 2 ^ e ≤ 16 ∧ c < n := by
  obtain ⟨c, e, h1, h2, _, h4, h5⟩ := hidS_mem h
  have := lg16 hn
  exact ⟨c, e, h1, Nat.le_trans h2 (lg_6 n), by omega, h5⟩
/-- Leaves as Show takes them. -/
structure LvsOK (ls : List Lf) : Prop where
  n : 1 ≤ ls.length ∧ ls.length ≤ 16
  ix : ∀ (k : Nat) (x : Lf), ls[k]? = some x → x.ix = (k : Int)
  ok : ∀ x ∈ ls, x.OK
theorem LvsOK.ls {ls : List Lf} (h : LvsOK ls) : LsOK ls := ⟨by have := h.n; omega, h.ok⟩
structure IxOK (n : Nat) (w : List Int) : Prop where
  bd : ∀ x ∈ w, 0 ≤ x ∧ x < (n : Int)
  inc : ∀ (k : Nat) (a b : Int), w[k]? = some a → w[k + 1]? = some b → a < b
  n : w.length ≤ 16
theorem IxOK.out {n : Nat} {w : List Int} (h : ∀ x ∈ w, 0 ≤ x ∧ x < (n : Int)) : w.any (outP n) = false := by
  rw [List.any_eq_false]
  intro x hx
  have := h x hx
  simp only [outP, Bool.or_eq_true, decide_eq_true_eq]
  omega
theorem sel_succ {ls : List Lf} {w : List Int} {k : Nat} {i : Int} {x : Lf} (h : w[k]? = some i) (hx : ls[i.toNat]? = some x) : (w.take (k + 1)).map (selF ls) = (w.take k).map (selF ls) ++ [x] := by
  rw [take_succ_at h, List.map_append]
  show _ ++ [selF ls i] = _
  rw [selF_at hx]
theorem hidT_succ {ls : List Lf} {l : List (Nat × Nat)} {k c e : Nat} (h : l[k]? = some (c, 2 ^ e)) (he : e ≤ 6) : (l.take (k + 1)).map (hidT ls) = (l.take k).map (hidT ls) ++ [treeD (ofK ls) e c] := by
  rw [take_succ_at h, List.map_append]
  show _ ++ [treeD (ofK ls) (lg (2 ^ e)) c] = _
  rw [lg_pow he]
def mcv22 : MC := (.seq (.reg [oN 4 (.alloc 55 3 [(.int .i64 0), .nils, .nils]) [], oN 5 (.mv (.c (.int .i64 0))) []] false) (.seq (.reg [oN 14 (.mv (.t 0)) [], oN 15 (.len (.t 14)) [0], oN 6 (.alloc 3 1 [(.int .i64 0)]) [], ⟨none, (.st 1 (.t 6) (.t 15)), none, [2, 1, 0, 1, 2]⟩] false) (.seq (.seq (.reg [oN 16 (.ld false 1 (.t 6)) [], oN 17 (.bin .eql (.t 16) (.c (.int .i64 0))) [0], oN 18 (.mv (.t 17)) [1], oG 19 (.ld false 1 (.t 6)) 18 false [2], oG 20 (.bin .gtr (.t 19) (.c (.int .i64 16))) 18 false [3, 2], oN 21 (.pick (.t 18) (.c (.bool true)) (.t 20)) [2, 4]] false) (.cond (.t 21) (.seq (.reg [oN 22 (.build [(.int .i64 0), .nils, .nils] []) [], ⟨none, (.st 3 (.t 4) (.t 22)), none, [0, 0]⟩, oN 5 (.mv (.c (.int .i64 2))) [1, 0, 1]] false) .ret) .skip)) (.seq (.seq (.reg [oN 23 (.mv (.t 0)) [], oN 24 (.len (.t 23)) [0], oN 25 (.mv (.c (.int .i64 0))) []] false) (.block 0 (.loop (.seq (.reg [oN 26 (.bin .lss (.t 25) (.t 24)) []] false) (.seq (.cond (.t 26) .skip (.exit 0)) (.seq (.block 1 (.seq (.reg [oN 27 (.mv (.t 25)) [], oN 28 (.ixsl 5 (.t 23) (.t 25)) [], oN 29 (.ld true 5 (.t 28)) [1], oN 8 (.alloc 51 5 [(.int .i64 0), (.int .i64 0), (.bool false), (.bool false), (.str (strN []))]) [], oN 7 (.mv (.t 27)) [0, 0, 1, 2, 3], ⟨none, (.st 5 (.t 8) (.t 29)), none, [3, 2, 4, 0, 1, 2, 3, 4]⟩] false) (.seq (.reg [oN 30 (.fa 0 (.t 8)) [], oN 31 (.ld false 1 (.t 30)) [0], oN 32 (.mv (.t 7)) [], oN 33 (.bin .neq (.t 31) (.t 32)) [1, 2]] false) (.cond (.t 33) (.seq (.reg [oN 34 (.build [(.int .i64 0), .nils, .nils] []) [], ⟨none, (.st 3 (.t 4) (.t 34)), none, [0, 0]⟩, oN 5 (.mv (.c (.int .i64 4))) [1, 0, 1]] false) .ret) .skip)))) (.reg [oN 35 (.bin .add (.t 25) (.c (.int .i64 1))) [], oN 25 (.mv (.t 35)) [0]] false))))))) (.seq (.seq (.reg [oN 36 (.mv (.t 1)) [], oN 37 (.mkfn (.func 66) [(.t 6)]) [], oN 38 (.call 65 [(.t 36), (.t 37)]) [0, 1]] false) (.cond (.t 38) (.seq (.reg [oN 39 (.build [(.int .i64 0), .nils, .nils] []) [], ⟨none, (.st 3 (.t 4) (.t 39)), none, [0, 0]⟩, oN 5 (.mv (.c (.int .i64 5))) [1, 0, 1]] false) .ret) .skip)) (.seq (.reg [oN 40 (.ld false 1 (.t 6)) [], oN 41 (.build [(.int .i64 0), .nils, .nils] [(0, (1, (.t 40)))]) [0], oN 9 (.alloc 55 3 [(.int .i64 0), .nils, .nils]) [], ⟨none, (.st 3 (.t 9) (.t 41)), none, [2, 1, 0, 1, 2]⟩] false) (.seq (.seq (.reg [oN 42 (.mv (.t 1)) [], oN 43 (.len (.t 42)) [0], oN 44 (.mv (.c (.int .i64 0))) []] false) (.block 2 (.loop (.seq (.reg [oN 45 (.bin .lss (.t 44) (.t 43)) []] false) (.seq (.cond (.t 45) .skip (.exit 2)) (.seq (.block 3 (.seq (.reg [oN 46 (.mv (.t 44)) [], oN 47 (.ixsl 1 (.t 42) (.t 44)) [], oN 48 (.ld false 1 (.t 47)) [1], oN 10 (.mv (.t 46)) [0, 0, 1, 2], oN 11 (.mv (.t 48)) [2, 3, 0, 1, 2, 3]] false) (.seq (.seq (.reg [oN 49 (.mv (.t 10)) [], oN 50 (.bin .gtr (.t 49) (.c (.int .i64 0))) [0], oN 51 (.mv (.t 50)) [1], oG 52 (.mv (.t 1)) 51 true [2], oG 53 (.mv (.t 10)) 51 true [2], oG 54 (.bin .sub (.t 53) (.c (.int .i64 1))) 51 true [4, 2], oG 55 (.ixsl 1 (.t 52) (.t 54)) 51 true [3, 5, 2], oG 56 (.ld false 1 (.t 55)) 51 true [6, 2], oG 57 (.mv (.t 11)) 51 true [2], oG 58 (.bin .geq (.t 56) (.t 57)) 51 true [7, 8, 2], oN 59 (.pick (.t 51) (.t 58) (.c (.bool false))) [2, 9]] false) (.cond (.t 59) (.seq (.reg [oN 60 (.build [(.int .i64 0), .nils, .nils] []) [], ⟨none, (.st 3 (.t 4) (.t 60)), none, [0, 0]⟩, oN 5 (.mv (.c (.int .i64 7))) [1, 0, 1]] false) .ret) .skip)) (.reg [oN 61 (.fa 1 (.t 9)) [], oN 62 (.ld false 1 (.t 61)) [0], oN 63 (.mv (.t 0)) [], oN 64 (.mv (.t 11)) [], oN 65 (.ixsl 5 (.t 63) (.t 64)) [2, 3], oN 66 (.ld true 5 (.t 65)) [4], oN 67 (.bslice 51 5 [(.int .i64 0), (.int .i64 0), (.bool false), (.bool false), (.str (strN []))] 1 [(0, (.t 66))]) [5], oN 68 (.app 51 5 40 [(.int .i64 0), (.int .i64 0), (.bool false), (.bool false), (.str (strN []))] (.t 62) (.t 67)) [1, 6], oN 69 (.fa 1 (.t 9)) [0, 1, 2, 3, 4, 5, 6, 7], ⟨none, (.st 1 (.t 69) (.t 68)), none, [8, 7, 7, 0, 1, 2, 3, 4, 5, 6, 7]⟩] true)))) (.reg [oN 70 (.bin .add (.t 44) (.c (.int .i64 1))) [], oN 44 (.mv (.t 70)) [0]] false))))))) (.seq (.seq (.reg [oN 71 (.ld false 1 (.t 6)) [], oN 72 (.mv (.t 1)) [], oN 73 (.call 67 [(.t 71), (.t 72)]) [0, 1], oN 74 (.len (.t 73)) [2], oN 75 (.mv (.c (.int .i64 0))) []] false) (.block 4 (.loop (.seq (.reg [oN 76 (.bin .lss (.t 75) (.t 74)) []] false) (.seq (.cond (.t 76) .skip (.exit 4)) (.seq (.block 5 (.seq (.reg [oN 77 (.ixsl 2 (.t 73) (.t 75)) [], oN 78 (.ld true 2 (.t 77)) [0], oN 13 (.alloc 110 2 [(.int .i64 0), (.int .i64 0)]) [], ⟨none, (.st 2 (.t 13) (.t 78)), none, [2, 1, 0, 1, 2]⟩] false) (.reg [oN 79 (.fa 2 (.t 9)) [], oN 80 (.ld false 1 (.t 79)) [0], oN 81 (.mv (.t 0)) [], oN 82 (.call 68 [(.t 81)]) [2], oN 83 (.ld true 2 (.t 13)) [], oN 84 (.call 69 [(.t 82), (.t 83)]) [3, 4, 3], oN 85 (.bslice 9 1 [(.str (strN []))] 1 [(0, (.t 84))]) [5], oN 86 (.app 9 1 16 [(.str (strN []))] (.t 80) (.t 85)) [1, 6, 5], oN 87 (.fa 2 (.t 9)) [0, 1, 2, 3, 4, 5, 6, 7], ⟨none, (.st 1 (.t 87) (.t 86)), none, [8, 7, 7, 0, 1, 2, 3, 4, 5, 6, 7]⟩] true))) (.reg [oN 88 (.bin .add (.t 75) (.c (.int .i64 1))) [], oN 75 (.mv (.t 88)) [0]] false))))))) (.seq (.reg [oN 89 (.ld true 3 (.t 9)) [], ⟨none, (.st 3 (.t 4) (.t 89)), none, [0, 0]⟩, oN 5 (.mv (.c (.int .i64 0))) [1, 0, 1]] false) .ret)))))))))
theorem mcOkv22 : (match Tryz.f22.body with | some c => compC Tryz.prog 90 c | none => none) = some mcv22 := by kernel_rfl
theorem vc22_ok (ls : List Lf) (hl : LvsOK ls) (w : List Int) (hw : IxOK ls.length w) : FC Tryz.prog 22 [.rs 5 (ls.map cLf), .rs 1 (w.map civ)] [] (.tup [.agg (cSh (showS ls w)), iv 0]) [] false := by
  have hwl : w.length ≤ 4611686018427387904 := Nat.le_trans hw.n (by decide)
  have hout := IxOK.out hw.bd
  have hha := hidA_len (w := w) hl.n.2
  have hwn := hw.n
  refine fc_run (nt := 90) Tryz.func22 rfl rfl mcOkv22 (Nat.le_of_ble_eq_true rfl) ?_
  delta mcv22
  refine aw_seq (aw_reg (rs_alloc rfl rfl rfl ?_))
  refine rs_mv rfl rfl ?_
  refine rs_nil fun _ => (th_n (aw_seq (aw_reg (rs_mv rfl rfl ?_))))
  refine rs_len_m rfl rfl ?_
  refine rs_alloc rfl rfl rfl ?_
  refine rs_st rfl rfl rfl rfl rfl rfl rfl (Nat.le_of_ble_eq_true rfl) rfl rfl ?_
  refine rs_nil fun _ => (th_n (aw_seq (aw_seq (aw_reg ?_))))
  have hln := hl.n
  refine rs_ld_p rfl rfl rfl rfl rfl ?_
  refine rs_cmp_f rfl rfl rfl rfl (by omega) ?_
  refine rs_mv rfl rfl ?_
  refine rs_ld_p rfl rfl rfl rfl rfl ?_
  refine rs_cmp_f rfl rfl rfl rfl (by omega) ?_
  refine rs_pick rfl rfl rfl ?_
  refine rs_nil fun _ => (th_n (aw_cond rfl (fun h => by cases h) (fun _ => ?_)))
  refine aw_skip (th_n (aw_seq (aw_seq (aw_reg (rs_mv rfl rfl ?_)))))
  refine rs_len_m rfl rfl ?_
  refine rs_mv rfl rfl ?_
  refine rs_nil fun _ => (th_n (aw_block ?_))
  refine aw_fam (α := Nat) (fun k => ls.length - k) (fun k => [(0, .rs 5 (ls.map cLf)), (1, .rs 1 (w.map civ)), (4, .ptr 4 0 0), (6, .ptr 6 0 0), (23, .rs 5 (ls.map cLf)), (24, iv (ls.length : Int)), (25, iv (((k) : Nat) : Int))]) (fun k => [(4, .cells 55 3 [[iv 0, .nils, .nils]] true), (6, .cells 3 1 [[iv (ls.length : Int)]] true)]) (fun k => k ≤ ls.length) 0 (by omega)
    (weak_to (.cons rfl sm (.cons rfl sm (.cons rfl sm (.cons rfl sm (.cons rfl sm (.cons rfl sm (.cons rfl sm (.nil)))))))) (.keep (rfl) rfl (.keep (rfl) rfl (.nil))) (fun i h => by cases h)) ?_
  intro k hk
  refine aw_seq (aw_reg (rs_lss rfl rfl rfl ?_))
  refine rs_nil fun _ => (th_n (aw_seq (aw_cond rfl (fun h26 => ?_) (fun h26 => ?_))))
  · replace h26 := of_decide_eq_true h26
    refine aw_skip (th_n (aw_seq (aw_block (aw_seq (aw_reg (rs_mv rfl rfl ?_))))))
    obtain ⟨x, hxk, hxm⟩ := at_some (L := ls) (k := k) (by omega)
    refine rs_ix_g (f := cLf) (y := x) rfl rfl rfl (by omega) hxk ?_
    refine rs_ld_ra (cs := cLf x) rfl rfl (Nat.le_of_ble_eq_true rfl) rfl ?_
    refine rs_alloc rfl rfl rfl ?_
    refine rs_mv rfl rfl ?_
    refine rs_st rfl rfl rfl rfl rfl rfl rfl (Nat.le_of_ble_eq_true rfl) rfl rfl ?_
    refine rs_nil fun _ => (th_n (aw_seq (aw_reg (rs_fa_p rfl rfl ?_))))
    refine rs_ld_p rfl rfl rfl rfl rfl ?_
    refine rs_mv rfl rfl ?_
    refine rs_cmp_f rfl rfl rfl rfl (fun h => h (hl.ix k x hxk)) ?_
    refine rs_nil fun _ => (th_n (aw_cond rfl (fun h => by cases h) (fun _ => ?_)))
    refine aw_skip (in_n (th_n (aw_reg (rs_add rfl rfl rfl (by omega) ?_))))
    refine rs_mv rfl rfl ?_
    refine rs_nil fun _ => (th_n ?_)
    exact ⟨k + 1, by omega, by omega, weak_to (.cons rfl sm (.cons rfl sm (.cons rfl sm (.cons rfl sm (.cons rfl sm (.cons rfl sm (.cons rfl sm (.nil)))))))) (.keep (rfl) rfl (.keep (rfl) rfl (.nil))) (fun i h => by cases h)⟩
  · replace h26 := of_decide_eq_false h26
    refine aw_exit ?_
    refine th_e ?_
    refine th_e ?_
    refine in_hit ?_
    refine th_n (aw_seq (aw_seq (aw_weak (F0 := [(0, .rs 5 (ls.map cLf)), (1, .rs 1 (w.map civ)), (4, .ptr 4 0 0), (6, .rp [iv (ls.length : Int)])]) (H0 := [(4, .cells 55 3 [[iv 0, .nils, .nils]] true)]) (weak_to (.cons rfl sm (.cons rfl sm (.cons rfl sm (.cons rfl (rc_pfrz rfl rfl (.inl rfl)) (.nil))))) (.keep (rfl) rfl (.nil)) fun i h => by cases h) ?_)))
    refine aw_reg (rs_mv rfl rfl ?_)
    refine rs_mkfn rfl rfl ?_
    refine rs_calln [] rfl rfl (vcC_out ls.length w hwl) (.cons (hv_same rfl) (.cons (hv_same rfl) (.nil))) rfl ?_
    rw [show w.any (outP ls.length) = false from hout]
    refine rs_nil fun _ => (th_n (aw_cond rfl (fun h => by cases h) (fun _ => ?_)))
    refine aw_skip (th_n (aw_seq (aw_reg (rs_ld_r rfl rfl rfl ?_))))
    refine rs_build rfl rfl ?_
    refine rs_alloc rfl rfl rfl ?_
    refine rs_st rfl rfl rfl rfl rfl rfl rfl (Nat.le_of_ble_eq_true rfl) rfl rfl ?_
    refine rs_nil fun _ => (th_n (aw_seq (aw_seq (aw_weak (F0 := [(0, .rs 5 (ls.map cLf)), (1, .rs 1 (w.map civ)), (4, .ptr 4 0 0), (6, .rp [iv (ls.length : Int)]), (9, .ptr 9 0 0)]) (H0 := [(4, .cells 55 3 [[iv 0, .nils, .nils]] true), (9, .cells 55 3 [[iv (ls.length : Int), .sl 905 0 (0), .sl 906 0 (0)]] false), (905, .cells 51 5 (((w.take (0)).map (selF ls)).map cLf) true), (906, .cells 9 1 ((((hidA ls.length w).take (0)).map (hidT ls)).map cS) true)]) (Weak.trans (F1 := [(0, .rs 5 (ls.map cLf)), (1, .rs 1 (w.map civ)), (4, .ptr 4 0 0), (6, .rp [iv (ls.length : Int)]), (9, .ptr 9 0 0)]) (H1 := [(4, .cells 55 3 [[iv 0, .nils, .nils]] true), (9, .cells 55 3 [[iv (ls.length : Int), .nils, .nils]] true)]) (weak_to (.cons rfl sm (.cons rfl sm (.cons rfl sm (.cons rfl sm (.cons rfl sm (.nil)))))) (.keep (rfl) rfl (.keep (rfl) rfl (.nil))) fun i h => by cases h) (Weak.trans (F1 := [(0, .rs 5 (ls.map cLf)), (1, .rs 1 (w.map civ)), (4, .ptr 4 0 0), (6, .rp [iv (ls.length : Int)]), (9, .ptr 9 0 0)]) (H1 := [(4, .cells 55 3 [[iv 0, .nils, .nils]] true), (9, .cells 55 3 [[iv (ls.length : Int), .sl 905 0 0, .nils]] false), (905, .cells 51 5 (((w.take (0)).map (selF ls)).map cLf) true)]) (Weak.trans (F1 := [(0, .rs 5 (ls.map cLf)), (1, .rs 1 (w.map civ)), (4, .ptr 4 0 0), (6, .rp [iv (ls.length : Int)]), (9, .ptr 9 0 0)]) (weak_seed_any (i := 905) (k := 9) (e2 := 51) (z2 := 5) (fl2 := true) rfl rfl (.next .here)) (weak_to (.cons rfl sm (.cons rfl sm (.cons rfl sm (.cons rfl sm (.cons rfl sm (.nil)))))) (.keep (rfl) rfl (.keep (rfl) rfl (.keep (rfl) rfl (.nil)))) fun i h => by cases h)) (Weak.trans (F1 := [(0, .rs 5 (ls.map cLf)), (1, .rs 1 (w.map civ)), (4, .ptr 4 0 0), (6, .rp [iv (ls.length : Int)]), (9, .ptr 9 0 0)]) (weak_seed_any (i := 906) (k := 9) (e2 := 9) (z2 := 1) (fl2 := true) rfl rfl (.next (.next .here))) (weak_to (.cons rfl sm (.cons rfl sm (.cons rfl sm (.cons rfl sm (.cons rfl sm (.nil)))))) (.keep (rfl) rfl (.keep (rfl) rfl (.keep (rfl) rfl (.keep (rfl) rfl (.nil))))) fun i h => by cases h)))) ?_))))
    refine aw_reg (rs_mv rfl rfl ?_)
    refine rs_len_m rfl rfl ?_
    refine rs_mv rfl rfl ?_
    refine rs_nil fun _ => (th_n (aw_block ?_))
    refine aw_fam (α := Nat) (fun k => w.length - k) (fun k => [(0, .rs 5 (ls.map cLf)), (1, .rs 1 (w.map civ)), (4, .ptr 4 0 0), (6, .rp [iv (ls.length : Int)]), (9, .ptr 9 0 0), (42, .rs 1 (w.map civ)), (43, iv (w.length : Int)), (44, iv (((k) : Nat) : Int))]) (fun k => [(4, .cells 55 3 [[iv 0, .nils, .nils]] true), (9, .cells 55 3 [[iv (ls.length : Int), .sl 905 0 (k), .sl 906 0 (0)]] false), (905, .cells 51 5 (((w.take (k)).map (selF ls)).map cLf) true), (906, .cells 9 1 ((((hidA ls.length w).take (0)).map (hidT ls)).map cS) true)]) (fun k => k ≤ w.length) 0 (by omega)
      (weak_to (.cons rfl sm (.cons rfl sm (.cons rfl sm (.cons rfl sm (.cons rfl sm (.cons rfl sm (.cons rfl sm (.cons rfl sm (.nil))))))))) (.keep (rfl) rfl (.keep (rfl) rfl (.keep (rfl) rfl (.keep (rfl) rfl (.nil))))) (fun i h => by cases h)) ?_
    intro k hk
    refine aw_seq (aw_reg (rs_lss rfl rfl rfl ?_))
    refine rs_nil fun _ => (th_n (aw_seq (aw_cond rfl (fun h45 => ?_) (fun h45 => ?_))))
    · replace h45 := of_decide_eq_true h45
      refine aw_skip (th_n (aw_seq (aw_block (aw_seq (aw_reg (rs_mv rfl rfl ?_))))))
      obtain ⟨b, hbk, hbm⟩ := at_some (L := w) (k := k) (by omega)
      obtain ⟨hb0, hb1⟩ := hw.bd b hbm
      obtain ⟨x, hx, hxm⟩ := at_some (L := ls) (k := b.toNat) (by omega)
      refine rs_ix_g (f := civ) (y := b) rfl rfl rfl (by omega) hbk ?_
      refine rs_ld_r rfl rfl rfl ?_
      refine rs_mv rfl rfl ?_
      refine rs_mv rfl rfl ?_
      refine rs_nil fun _ => (th_n (aw_seq (aw_seq (aw_reg (rs_mv rfl rfl ?_)))))
      refine rs_cmp rfl rfl rfl rfl (fun h50 => ?_) (fun h50 => ?_)
      · skip
        refine rs_mv rfl rfl ?_
        refine rs_mv rfl rfl ?_
        refine rs_mv rfl rfl ?_
        refine rs_sub rfl rfl rfl (by omega) ?_
        obtain ⟨a, ha, ham⟩ := at_some (L := w) (k := k - 1) (by omega)
        have hab := hw.inc (k - 1) a b ha (by rw [show k - 1 + 1 = k by omega]; exact hbk)
        refine rs_ix_g (f := civ) (y := a) rfl rfl rfl (by omega) (by rw [show ((k : Int) - 1).toNat = k - 1 by omega]; exact ha) ?_
        refine rs_ld_r rfl rfl rfl ?_
        refine rs_mv rfl rfl ?_
        refine rs_cmp_f rfl rfl rfl rfl (by omega) ?_
        refine rs_pick rfl rfl rfl ?_
        refine rs_nil fun _ => (th_n (aw_cond rfl (fun h => by cases h) (fun _ => ?_)))
        refine aw_skip (th_n (aw_draw hmix ?_))
        refine rs_fa_p rfl rfl ?_
        refine rs_ld_p rfl rfl rfl rfl rfl ?_
        refine rs_mv rfl rfl ?_
        refine rs_mv rfl rfl ?_
        refine rs_ix_g (f := cLf) (y := x) rfl rfl rfl hb0 hx ?_
        refine rs_ld_ra (cs := cLf x) rfl rfl (Nat.le_of_ble_eq_true rfl) rfl ?_
        refine rs_bslice (l := (([x] : List Lf)).flatMap cLf) (els := (([x] : List Lf)).map cLf) (fl := true) rfl (by kernel_rfl) rfl rfl (by kernel_rfl) (by kernel_rfl) ?_
        refine rs_app_m (f := cLf) (xs := (w.take k).map (selF ls)) (y := x) (fl' := true) rfl rfl rfl rfl (by simp; omega) rfl rfl rfl (by decide) rfl (by omega) (by omega) rfl ?_
        refine rs_fa_p rfl rfl ?_
        refine rs_st rfl rfl rfl rfl rfl rfl rfl (Nat.le_of_ble_eq_true rfl) rfl rfl ?_
        refine rs_nil ⟨by kernel_rfl, fun _ => ?_⟩
        refine in_n (th_n (aw_reg (rs_add rfl rfl rfl (by omega) ?_)))
        refine rs_mv rfl rfl ?_
        refine rs_nil fun _ => (th_n ?_)
        exact ⟨k + 1, by omega, by omega, show Weak _ _ _ _ [(0, .rs 5 (ls.map cLf)), (1, .rs 1 (w.map civ)), (4, .ptr 4 0 0), (6, .rp [iv (ls.length : Int)]), (9, .ptr 9 0 0), (42, .rs 1 (w.map civ)), (43, iv (w.length : Int)), (44, iv (((k + 1) : Nat) : Int))] [(4, .cells 55 3 [[iv 0, .nils, .nils]] true), (9, .cells 55 3 [[iv (ls.length : Int), .sl 905 0 (k + 1), .sl 906 0 (0)]] false), (905, .cells 51 5 (((w.take (k + 1)).map (selF ls)).map cLf) true), (906, .cells 9 1 ((((hidA ls.length w).take (0)).map (hidT ls)).map cS) true)] from Weak.trans (F1 := [(0, .rs 5 (ls.map cLf)), (1, .rs 1 (w.map civ)), (4, .ptr 4 0 0), (6, .rp [iv (ls.length : Int)]), (9, .ptr 9 0 0), (42, .rs 1 (w.map civ)), (43, iv (w.length : Int)), (44, iv (((k + 1) : Nat) : Int))]) (H1 := [(4, .cells 55 3 [[iv 0, .nils, .nils]] true), (9, .cells 55 3 [[iv (ls.length : Int), .sl 68 0 (k + 1), .sl 906 0 (0)]] false), (68, .cells 51 5 (((w.take (k + 1)).map (selF ls)).map cLf) true), (906, .cells 9 1 ((((hidA ls.length w).take (0)).map (hidT ls)).map cS) true)]) (weak_to (.cons rfl sm (.cons rfl sm (.cons rfl sm (.cons rfl sm (.cons rfl sm (.cons rfl sm (.cons rfl sm (.cons rfl sm (.nil))))))))) (.keep (rfl) rfl (.keep (rfl) rfl (.keep (by rw [sel_succ hbk hx]; rfl) rfl (.keep (rfl) rfl (.nil))))) fun i h => by cases h) (Weak.trans (F1 := [(0, .rs 5 (ls.map cLf)), (1, .rs 1 (w.map civ)), (4, .ptr 4 0 0), (6, .rp [iv (ls.length : Int)]), (9, .ptr 9 0 0), (42, .rs 1 (w.map civ)), (43, iv (w.length : Int)), (44, iv (((k + 1) : Nat) : Int))]) (weak_ren_row (i := 68) (i' := 905) (k := 9) rfl rfl (.cons rfl (.same _) (.cons rfl (.same _) (.cons rfl (.same _) (.cons rfl (.same _) (.cons rfl (.same _) (.cons rfl (.same _) (.cons rfl (.same _) (.cons rfl (.same _) (.nil))))))))) (by decide) rfl (.cons (.same _) (.cons (.sl _ _) (RenL.refl _ _ _)))) (weak_to (.cons rfl sm (.cons rfl sm (.cons rfl sm (.cons rfl sm (.cons rfl sm (.cons rfl sm (.cons rfl sm (.cons rfl sm (.nil))))))))) (.keep (rfl) rfl (.keep (rfl) rfl (.keep (rfl) rfl (.keep (rfl) rfl (.nil))))) fun i h => by cases h))⟩
      · skip
        refine rs_mv rfl rfl ?_
        refine rs_skip rfl ?_
        refine rs_skip rfl ?_
        refine rs_skip rfl ?_
        refine rs_skip rfl ?_
        refine rs_skip rfl ?_
        refine rs_skip rfl ?_
        refine rs_skip rfl ?_
        refine rs_pick rfl rfl rfl ?_
        refine rs_nil fun _ => (th_n (aw_cond rfl (fun h => by cases h) (fun _ => ?_)))
        refine aw_skip (th_n (aw_draw hmix ?_))
        refine rs_fa_p rfl rfl ?_
        refine rs_ld_p rfl rfl rfl rfl rfl ?_
        refine rs_mv rfl rfl ?_
        refine rs_mv rfl rfl ?_
        refine rs_ix_g (f := cLf) (y := x) rfl rfl rfl hb0 hx ?_
        refine rs_ld_ra (cs := cLf x) rfl rfl (Nat.le_of_ble_eq_true rfl) rfl ?_
        refine rs_bslice (l := (([x] : List Lf)).flatMap cLf) (els := (([x] : List Lf)).map cLf) (fl := true) rfl (by kernel_rfl) rfl rfl (by kernel_rfl) (by kernel_rfl) ?_
        refine rs_app_m (f := cLf) (xs := (w.take k).map (selF ls)) (y := x) (fl' := true) rfl rfl rfl rfl (by simp; omega) rfl rfl rfl (by decide) rfl (by omega) (by omega) rfl ?_
        refine rs_fa_p rfl rfl ?_
        refine rs_st rfl rfl rfl rfl rfl rfl rfl (Nat.le_of_ble_eq_true rfl) rfl rfl ?_
        refine rs_nil ⟨by kernel_rfl, fun _ => ?_⟩
        refine in_n (th_n (aw_reg (rs_add rfl rfl rfl (by omega) ?_)))
        refine rs_mv rfl rfl ?_
        refine rs_nil fun _ => (th_n ?_)
        exact ⟨k + 1, by omega, by omega, show Weak _ _ _ _ [(0, .rs 5 (ls.map cLf)), (1, .rs 1 (w.map civ)), (4, .ptr 4 0 0), (6, .rp [iv (ls.length : Int)]), (9, .ptr 9 0 0), (42, .rs 1 (w.map civ)), (43, iv (w.length : Int)), (44, iv (((k + 1) : Nat) : Int))] [(4, .cells 55 3 [[iv 0, .nils, .nils]] true), (9, .cells 55 3 [[iv (ls.length : Int), .sl 905 0 (k + 1), .sl 906 0 (0)]] false), (905, .cells 51 5 (((w.take (k + 1)).map (selF ls)).map cLf) true), (906, .cells 9 1 ((((hidA ls.length w).take (0)).map (hidT ls)).map cS) true)] from Weak.trans (F1 := [(0, .rs 5 (ls.map cLf)), (1, .rs 1 (w.map civ)), (4, .ptr 4 0 0), (6, .rp [iv (ls.length : Int)]), (9, .ptr 9 0 0), (42, .rs 1 (w.map civ)), (43, iv (w.length : Int)), (44, iv (((k + 1) : Nat) : Int))]) (H1 := [(4, .cells 55 3 [[iv 0, .nils, .nils]] true), (9, .cells 55 3 [[iv (ls.length : Int), .sl 68 0 (k + 1), .sl 906 0 (0)]] false), (68, .cells 51 5 (((w.take (k + 1)).map (selF ls)).map cLf) true), (906, .cells 9 1 ((((hidA ls.length w).take (0)).map (hidT ls)).map cS) true)]) (weak_to (.cons rfl sm (.cons rfl sm (.cons rfl sm (.cons rfl sm (.cons rfl sm (.cons rfl sm (.cons rfl sm (.cons rfl sm (.nil))))))))) (.keep (rfl) rfl (.keep (rfl) rfl (.keep (by rw [sel_succ hbk hx]; rfl) rfl (.keep (rfl) rfl (.nil))))) fun i h => by cases h) (Weak.trans (F1 := [(0, .rs 5 (ls.map cLf)), (1, .rs 1 (w.map civ)), (4, .ptr 4 0 0), (6, .rp [iv (ls.length : Int)]), (9, .ptr 9 0 0), (42, .rs 1 (w.map civ)), (43, iv (w.length : Int)), (44, iv (((k + 1) : Nat) : Int))]) (weak_ren_row (i := 68) (i' := 905) (k := 9) rfl rfl (.cons rfl (.same _) (.cons rfl (.same _) (.cons rfl (.same _) (.cons rfl (.same _) (.cons rfl (.same _) (.cons rfl (.same _) (.cons rfl (.same _) (.cons rfl (.same _) (.nil))))))))) (by decide) rfl (.cons (.same _) (.cons (.sl _ _) (RenL.refl _ _ _)))) (weak_to (.cons rfl sm (.cons rfl sm (.cons rfl sm (.cons rfl sm (.cons rfl sm (.cons rfl sm (.cons rfl sm (.cons rfl sm (.nil))))))))) (.keep (rfl) rfl (.keep (rfl) rfl (.keep (rfl) rfl (.keep (rfl) rfl (.nil))))) fun i h => by cases h))⟩
    · replace h45 := of_decide_eq_false h45
      refine aw_exit ?_
      refine th_e ?_
      refine th_e ?_
      refine in_hit ?_
      refine th_n (aw_seq (aw_seq ?_))
      obtain rfl : k = w.length := by omega
      skip
      refine aw_reg (rs_ld_r rfl rfl rfl ?_)
      refine rs_mv rfl rfl ?_
      refine rs_calln [] rfl rfl (vc67 ls.length hl.n w hwl) (.cons (hv_same rfl) (.cons (hv_same rfl) (.nil))) rfl ?_
      refine rs_len_m rfl rfl ?_
      refine rs_mv rfl rfl ?_
      refine rs_nil fun _ => (th_n (aw_block ?_))
      refine aw_fam (α := Nat) (fun k => (hidA ls.length w).length - k) (fun k => [(0, .rs 5 (ls.map cLf)), (1, .rs 1 (w.map civ)), (4, .ptr 4 0 0), (6, .rp [iv (ls.length : Int)]), (9, .ptr 9 0 0), (73, .rs 2 ((hidA ls.length w).map cSp)), (74, iv ((hidA ls.length w).length : Int)), (75, iv (((k) : Nat) : Int))]) (fun k => [(4, .cells 55 3 [[iv 0, .nils, .nils]] true), (9, .cells 55 3 [[iv (ls.length : Int), .sl 905 0 (w.length), .sl 906 0 (k)]] false), (905, .cells 51 5 (((w.take (w.length)).map (selF ls)).map cLf) true), (906, .cells 9 1 ((((hidA ls.length w).take (k)).map (hidT ls)).map cS) true)]) (fun k => k ≤ (hidA ls.length w).length) 0 (by omega)
        (weak_to (.cons rfl sm (.cons rfl sm (.cons rfl sm (.cons rfl sm (.cons rfl sm (.cons rfl sm (.cons rfl sm (.cons rfl sm (.nil))))))))) (.keep (rfl) rfl (.keep (rfl) rfl (.keep (rfl) rfl (.keep (rfl) rfl (.nil))))) (fun i h => by cases h)) ?_
      intro k hk
      refine aw_seq (aw_reg (rs_lss rfl rfl rfl ?_))
      refine rs_nil fun _ => (th_n (aw_seq (aw_cond rfl (fun h76 => ?_) (fun h76 => ?_))))
      · replace h76 := of_decide_eq_true h76
        refine aw_skip (th_n (aw_seq (aw_block (aw_seq (aw_reg ?_)))))
        obtain ⟨s, hsk, hsm⟩ := at_some (L := hidA ls.length w) (k := k) (by omega)
        obtain ⟨c, e, rfl, he, hce, hcn⟩ := hidA_mem hl.n.2 hsm
        refine rs_ix_g (f := cSp) (y := (c, 2 ^ e)) rfl rfl rfl (by omega) hsk ?_
        refine rs_ld_ra (cs := cP c (2 ^ e)) rfl rfl (Nat.le_of_ble_eq_true rfl) rfl ?_
        refine rs_alloc rfl rfl rfl ?_
        refine rs_st rfl rfl rfl rfl rfl rfl rfl (Nat.le_of_ble_eq_true rfl) rfl rfl ?_
        refine rs_nil fun _ => (th_n (aw_draw hmix ?_))
        refine rs_fa_p rfl rfl ?_
        refine rs_ld_p rfl rfl rfl rfl rfl ?_
        refine rs_mv rfl rfl ?_
        refine rs_callo [] rfl rfl (vc68 ls) (.cons (hv_same rfl) .nil) .nil rfl rfl rfl ?_
        refine rs_ld_pa rfl rfl rfl rfl (Nat.le_of_ble_eq_true rfl) rfl ?_
        refine rs_calln [] rfl rfl (vc69_1 ls (ofK ls) (ofK_ok ls) (fun b m _ => vc119 ls hl.ls b m) e c (by omega)) (.cons (hv_same rfl) (.cons (hv_same rfl) (.nil))) rfl ?_
        refine rs_bslice (l := (([treeD (ofK ls) e c] : List (List Int))).flatMap cS) (els := (([treeD (ofK ls) e c] : List (List Int))).map cS) (fl := true) rfl (by kernel_rfl) rfl rfl (by kernel_rfl) (by kernel_rfl) ?_
        refine rs_app_m (f := cS) (xs := ((hidA ls.length w).take k).map (hidT ls)) (y := treeD (ofK ls) e c) (fl' := true) rfl rfl rfl rfl (by simp; omega) rfl rfl rfl (by decide) rfl (by omega) (by omega) rfl ?_
        refine rs_fa_p rfl rfl ?_
        refine rs_st rfl rfl rfl rfl rfl rfl rfl (Nat.le_of_ble_eq_true rfl) rfl rfl ?_
        refine rs_nil ⟨by kernel_rfl, fun _ => ?_⟩
        refine in_n (th_n (aw_reg (rs_add rfl rfl rfl (by omega) ?_)))
        refine rs_mv rfl rfl ?_
        refine rs_nil fun _ => (th_n ?_)
        exact ⟨k + 1, by omega, by omega, show Weak _ _ _ _ [(0, .rs 5 (ls.map cLf)), (1, .rs 1 (w.map civ)), (4, .ptr 4 0 0), (6, .rp [iv (ls.length : Int)]), (9, .ptr 9 0 0), (73, .rs 2 ((hidA ls.length w).map cSp)), (74, iv ((hidA ls.length w).length : Int)), (75, iv (((k + 1) : Nat) : Int))] [(4, .cells 55 3 [[iv 0, .nils, .nils]] true), (9, .cells 55 3 [[iv (ls.length : Int), .sl 905 0 (w.length), .sl 906 0 (k + 1)]] false), (905, .cells 51 5 (((w.take (w.length)).map (selF ls)).map cLf) true), (906, .cells 9 1 ((((hidA ls.length w).take (k + 1)).map (hidT ls)).map cS) true)] from Weak.trans (F1 := [(0, .rs 5 (ls.map cLf)), (1, .rs 1 (w.map civ)), (4, .ptr 4 0 0), (6, .rp [iv (ls.length : Int)]), (9, .ptr 9 0 0), (73, .rs 2 ((hidA ls.length w).map cSp)), (74, iv ((hidA ls.length w).length : Int)), (75, iv (((k + 1) : Nat) : Int))]) (H1 := [(4, .cells 55 3 [[iv 0, .nils, .nils]] true), (9, .cells 55 3 [[iv (ls.length : Int), .sl 905 0 (w.length), .sl 86 0 (k + 1)]] false), (905, .cells 51 5 (((w.take (w.length)).map (selF ls)).map cLf) true), (86, .cells 9 1 ((((hidA ls.length w).take (k + 1)).map (hidT ls)).map cS) true)]) (weak_to (.cons rfl sm (.cons rfl sm (.cons rfl sm (.cons rfl sm (.cons rfl sm (.cons rfl sm (.cons rfl sm (.cons rfl sm (.nil))))))))) (.keep (rfl) rfl (.keep (rfl) rfl (.keep (rfl) rfl (.keep (by rw [hidT_succ hsk he]; rfl) rfl (.nil))))) fun i h => by cases h) (Weak.trans (F1 := [(0, .rs 5 (ls.map cLf)), (1, .rs 1 (w.map civ)), (4, .ptr 4 0 0), (6, .rp [iv (ls.length : Int)]), (9, .ptr 9 0 0), (73, .rs 2 ((hidA ls.length w).map cSp)), (74, iv ((hidA ls.length w).length : Int)), (75, iv (((k + 1) : Nat) : Int))]) (weak_ren_row (i := 86) (i' := 906) (k := 9) rfl rfl (.cons rfl (.same _) (.cons rfl (.same _) (.cons rfl (.same _) (.cons rfl (.same _) (.cons rfl (.same _) (.cons rfl (.same _) (.cons rfl (.same _) (.cons rfl (.same _) (.nil))))))))) (by decide) rfl (.cons (.same _) (.cons (.same _) (.cons (.sl _ _) (RenL.refl _ _ _))))) (weak_to (.cons rfl sm (.cons rfl sm (.cons rfl sm (.cons rfl sm (.cons rfl sm (.cons rfl sm (.cons rfl sm (.cons rfl sm (.nil))))))))) (.keep (rfl) rfl (.keep (rfl) rfl (.keep (rfl) rfl (.keep (rfl) rfl (.nil))))) fun i h => by cases h))⟩
      · replace h76 := of_decide_eq_false h76
        refine aw_exit ?_
        refine th_e ?_
        refine th_e ?_
        refine in_hit ?_
        refine th_n (aw_seq (aw_reg (rs_ld_pa rfl rfl rfl rfl (Nat.le_of_ble_eq_true rfl) rfl ?_)))
        refine rs_st rfl rfl rfl rfl rfl rfl rfl (Nat.le_of_ble_eq_true rfl) rfl rfl ?_
        refine rs_mv rfl rfl ?_
        refine rs_nil fun _ => (th_n (aw_ret ?_))
        obtain rfl : k = (hidA ls.length w).length := by omega
        rw [show cSh (showS ls w) = [iv (ls.length : Int), .rs 5 (((w.take w.length).map (selF ls)).map cLf), .rs 1 ((((hidA ls.length w).take (hidA ls.length w).length).map (hidT ls)).map cS)] by rw [List.take_of_length_le (Nat.le_refl _), List.take_of_length_le (Nat.le_refl _)]; rfl]
        exact ret_new rfl (rc_tup (.cons (rc_agg (.cons (rc_same rfl (.inr rfl)) (.cons (rc_frz rfl rfl (by simp) (fun _ => rfl)) (.cons (rc_frz rfl rfl (by simp) (fun _ => rfl)) .nil)))) (.cons (rc_same rfl (.inr rfl)) .nil))) .nil
end Go.Proofs.YthfhaoogcpfboaaGreat

/-! Walks: VE. -/
namespace Go.Proofs.YthfhaoogcpfboaaGreat
open Go.RowKit
set_option maxRecDepth 100000
set_option linter.unusedVariables false
section
variable {P : Program} {N : Nat} {F : Fr} {H : Hp} {ml : List MOper} {K : List Fp → Fr → Hp → Prop} {g : Option (Nat × Bool)} {pre : List Nat} {d : Nat}
theorem rs_ix_si {a n e z : Nat} {x i : Arg} {k : IntKind} {t : Int} {els : List (List AV)} {fl : Bool} (hg : gOK F g = true) (hx : aarg F x = some (.sl a 0 n)) (hi : aarg F i = some (.int k t)) (ha : get H a = some (.cells e z els fl)) (h0 : 0 ≤ t) (h1 : t < n)
    (h : RS P N ml ((d, .ptr a t.toNat 0) :: F) H (fun fps => K (([a], []) :: fps))) : RS P N (⟨some d, .ixsl z x i, g, pre⟩ :: ml) F H K := rs_ix_s hg hx hi ha h0 h1 (by simpa using h)
end
theorem hv_int {H Hs : Hp} {rd : List Nat} {al : Bool} {k : IntKind} {a b : Int} (h : a = b) : HV H Hs rd al (.int k a) (.int k b) := by subst h; exact hv_same rfl
abbrev ixsF (lv : List Lf) : List Int := lv.map Lf.ix
theorem ixs_succ {lv : List Lf} {k : Nat} {x : Lf} (h : lv[k]? = some x) : ixsF (lv.take (k + 1)) = ixsF (lv.take k) ++ [x.ix] := by unfold ixsF; rw [take_succ_at h, List.map_append]; rfl
def shortB (d : List Int) : Bool := decide ((d.length : Int) ≠ 8)
def spEq (b m : Nat) (x : Nat × Nat) : Bool := decide (x = (b, m))
theorem spEq_aeq (b m : Nat) (x : Nat × Nat) : (false != decide ([(b : Int), (m : Int)] = [(x.1 : Int), (x.2 : Int)])) = spEq b m x := by
  obtain ⟨c, e⟩ := x
  by_cases h : (c, e) = (b, m)
  · injection h with h1 h2; subst h1 h2; simp [spEq]
  · have h2 : ¬ ([(b : Int), (m : Int)] = [(c : Int), (e : Int)]) := fun q => h (by
      simp only [List.cons.injEq, and_true] at q
      have h1 := Int.ofNat_inj.1 q.1
      have h2 := Int.ofNat_inj.1 q.2
      rw [h1, h2])
    simp [spEq, h, h2]
/-- Indices below z, increasing, above p. -/
def incF (z : Int) : Int → List Int → Bool
  | _, [] => true
  | p, x :: l => decide (0 ≤ x) && decide (x < z) && decide (p < x) && incF z x l
theorem incF_at {z p x : Int} {l : List Int} {k : Nat} (h : l[k]? = some x) : incF z p (l.drop k) = (decide (0 ≤ x) && decide (x < z) && decide (p < x) && incF z x (l.drop (k + 1))) := by
  obtain ⟨hk, e⟩ := List.getElem?_eq_some_iff.1 h
  rw [List.drop_eq_getElem_cons hk, e]; rfl
theorem incF_bd {z : Int} : ∀ {l : List Int} {p : Int}, incF z p l = true → ∀ x ∈ l, 0 ≤ x ∧ x < z ∧ p < x
  | [], _, _, x, hx => by cases hx
  | y :: l, p, h, x, hx => by
    simp only [incF, Bool.and_eq_true, decide_eq_true_eq] at h
    obtain ⟨⟨⟨h1, h2⟩, h3⟩, h4⟩ := h
    rcases List.mem_cons.1 hx with rfl | hx
    · exact ⟨h1, h2, h3⟩
    · have := incF_bd h4 x hx; exact ⟨this.1, this.2.1, by omega⟩
/-- The hidden subtrees of a Shown that has the form. -/
def fmS (z : Int) (lv : List Lf) (hd : List (List Int)) : Option (List (Nat × Nat)) :=
  if z < 1 ∨ z > 16 then none else if incF z (-1) (ixsF lv) = false then none else if ((hidA z.toNat (ixsF lv)).length : Int) ≠ hd.length then none else if hd.any shortB = true then none else some (hidA z.toNat (ixsF lv))
theorem fm_1 {z : Int} {lv : List Lf} {hd : List (List Int)} (h : z < 1 ∨ z > 16) : fmS z lv hd = none := if_pos h
theorem fm_2 {z : Int} {lv : List Lf} {hd : List (List Int)} (h : ¬ (z < 1 ∨ z > 16)) (h2 : incF z (-1) (ixsF lv) = false) : fmS z lv hd = none := by unfold fmS; rw [if_neg h, if_pos h2]
theorem fm_3 {z : Int} {lv : List Lf} {hd : List (List Int)} (h : ¬ (z < 1 ∨ z > 16)) (h2 : incF z (-1) (ixsF lv) = true) (h3 : ((hidA z.toNat (ixsF lv)).length : Int) ≠ hd.length) : fmS z lv hd = none := by unfold fmS; rw [if_neg h, if_neg (by rw [h2]; decide), if_pos h3]
theorem fm_4 {z : Int} {lv : List Lf} {hd : List (List Int)} (h : ¬ (z < 1 ∨ z > 16)) (h2 : incF z (-1) (ixsF lv) = true) (h3 : ¬ ((hidA z.toNat (ixsF lv)).length : Int) ≠ hd.length) (h4 : hd.any shortB = true) : fmS z lv hd = none := by unfold fmS; rw [if_neg h, if_neg (by rw [h2]; decide), if_neg h3, if_pos h4]
theorem fm_5 {z : Int} {lv : List Lf} {hd : List (List Int)} (h : ¬ (z < 1 ∨ z > 16)) (h2 : incF z (-1) (ixsF lv) = true) (h3 : ¬ ((hidA z.toNat (ixsF lv)).length : Int) ≠ hd.length) (h4 : hd.any shortB = false) : fmS z lv hd = some (hidA z.toNat (ixsF lv)) := by unfold fmS; rw [if_neg h, if_neg (by rw [h2]; decide), if_neg h3, if_neg (by rw [h4]; decide)]
def mcv80 : MC := (.seq (.reg [oN 1 (.box 55 3 (.t 0)) [], oN 2 (.mv (.c .nils)) []] false) (.seq (.reg [oN 3 (.mv (.c .nils)) []] false) (.seq (.seq (.reg [oN 6 (.fa 1 (.t 1)) [], oN 7 (.ld false 1 (.t 6)) [0], oN 8 (.len (.t 7)) [1], oN 9 (.mv (.c (.int .i64 0))) []] false) (.block 0 (.loop (.seq (.reg [oN 10 (.bin .lss (.t 9) (.t 8)) []] false) (.seq (.cond (.t 10) .skip (.exit 0)) (.seq (.block 1 (.seq (.reg [oN 11 (.ixsl 5 (.t 7) (.t 9)) [], oN 12 (.ld true 5 (.t 11)) [0], oN 5 (.alloc 51 5 [(.int .i64 0), (.int .i64 0), (.bool false), (.bool false), (.str (strN []))]) [], ⟨none, (.st 5 (.t 5) (.t 12)), none, [2, 1, 0, 1, 2]⟩] false) (.reg [oN 13 (.mv (.t 3)) [], oN 14 (.fa 0 (.t 5)) [], oN 15 (.ld false 1 (.t 14)) [1], oN 16 (.bslice 3 1 [(.int .i64 0)] 1 [(0, (.t 15))]) [2], oN 17 (.app 3 1 8 [(.int .i64 0)] (.t 13) (.t 16)) [0, 3], oN 3 (.mv (.t 17)) [4, 4, 0, 1, 2, 3, 4]] false))) (.reg [oN 18 (.bin .add (.t 9) (.c (.int .i64 1))) [], oN 9 (.mv (.t 18)) [0]] false))))))) (.seq (.reg [oN 19 (.mv (.t 3)) [], oN 2 (.mv (.t 19)) [0, 0]] false) .ret))))
theorem mcOkv80 : (match Tryz.f80.body with | some c => compC Tryz.prog 20 c | none => none) = some mcv80 := by kernel_rfl
theorem vc80 (z : Int) (lv : List Lf) (hd : List (List Int)) (hlv : lv.length ≤ 64) : FC Tryz.prog 80 [.agg [.int .i64 z, .rs 5 (lv.map cLf), .rs 1 (hd.map cS)]] [] (.rs 1 ((ixsF lv).map civ)) [] false := by
  refine fc_run (nt := 20) Tryz.func80 rfl rfl mcOkv80 (Nat.le_of_ble_eq_true rfl) ?_
  delta mcv80
  refine aw_seq (aw_reg (rs_box rfl rfl rfl rfl rfl rfl ?_))
  refine rs_mv rfl rfl ?_
  refine rs_nil fun _ => (th_n (aw_seq (aw_reg (rs_mv rfl rfl ?_))))
  refine rs_nil fun _ => (th_n (aw_seq (aw_seq (aw_reg (rs_fa_p rfl rfl ?_)))))
  refine rs_ld_p rfl rfl rfl rfl rfl ?_
  refine rs_len_m rfl rfl ?_
  refine rs_mv rfl rfl ?_
  refine rs_nil fun _ => (th_n (aw_block ?_))
  refine aw_fam (α := Nat) (fun k => lv.length - k) (fun k => [(7, .rs 5 (lv.map cLf)), (8, iv (lv.length : Int)), (9, iv (((k) : Nat) : Int)), (3, .sl 901 0 (k))]) (fun k => [(901, .cells 3 1 ((ixsF (lv.take (k))).map civ) true)]) (fun k => k ≤ lv.length) 0 (by omega)
    (weak_to (.cons rfl sm (.cons rfl sm (.cons rfl sm (.cons rfl (rc_virt rfl rfl) (.nil))))) (.virt rfl (.nil)) (fun i h => by cases h)) ?_
  intro k hk
  refine aw_seq (aw_reg (rs_lss rfl rfl rfl ?_))
  refine rs_nil fun _ => (th_n (aw_seq (aw_cond rfl (fun h10 => ?_) (fun h10 => ?_))))
  · replace h10 := of_decide_eq_true h10
    refine aw_skip (th_n (aw_seq (aw_block (aw_seq (aw_reg ?_)))))
    obtain ⟨x, hxk, hxm⟩ := at_some (L := lv) (k := k) (by omega)
    refine rs_ix_g (f := cLf) (y := x) rfl rfl rfl (by omega) hxk ?_
    refine rs_ld_ra (cs := cLf x) rfl rfl (Nat.le_of_ble_eq_true rfl) rfl ?_
    refine rs_alloc rfl rfl rfl ?_
    refine rs_st rfl rfl rfl rfl rfl rfl rfl (Nat.le_of_ble_eq_true rfl) rfl rfl ?_
    refine rs_nil fun _ => (th_n (aw_reg (rs_mv rfl rfl ?_)))
    refine rs_fa_p rfl rfl ?_
    refine rs_ld_p rfl rfl rfl rfl rfl ?_
    refine rs_bslice (l := (([x.ix] : List Int)).flatMap civ) (els := (([x.ix] : List Int)).map civ) (fl := true) rfl (by kernel_rfl) rfl rfl (by kernel_rfl) (by kernel_rfl) ?_
    refine rs_app_m (f := civ) (xs := ixsF (lv.take k)) (y := x.ix) (fl' := true) rfl rfl rfl rfl (by simp; omega) rfl rfl rfl (by decide) rfl (by omega) (by omega) rfl ?_
    refine rs_mv rfl rfl ?_
    refine rs_nil fun _ => (in_n (th_n (aw_reg (rs_add rfl rfl rfl (by omega) ?_))))
    refine rs_mv rfl rfl ?_
    refine rs_nil fun _ => (th_n ?_)
    exact ⟨k + 1, by omega, by omega, weak_to_ren (i := 17) (i' := 901) (F1 := [(7, .rs 5 (lv.map cLf)), (8, iv (lv.length : Int)), (9, iv (((k + 1) : Nat) : Int)), (3, .sl 17 0 (k + 1))]) (H1 := [(17, .cells 3 1 ((ixsF (lv.take (k + 1))).map civ) true)]) (.cons rfl sm (.cons rfl sm (.cons rfl sm (.cons rfl sm (.nil))))) (.keep (by rw [ixs_succ hxk]; rfl) rfl (.nil)) (fun i h => by cases h) rfl rfl (.cons rfl (.same _) (.cons rfl (.same _) (.cons rfl (.same _) (.cons rfl (.sl _ _) (.nil))))) (.cons rfl sm (.cons rfl sm (.cons rfl sm (.cons rfl sm (.nil))))) (.keep (rfl) rfl (.nil)) (fun i h => by cases h)⟩
  · replace h10 := of_decide_eq_false h10
    refine aw_exit ?_
    refine th_e ?_
    refine th_e ?_
    refine in_hit ?_
    refine th_n (aw_seq (aw_reg (rs_mv rfl rfl ?_)))
    refine rs_mv rfl rfl ?_
    refine rs_nil fun _ => (th_n (aw_ret ?_))
    obtain rfl : k = lv.length := by omega
    rw [show ixsF lv = ixsF (lv.take lv.length) by rw [List.take_of_length_le (Nat.le_refl _)]]
    exact ret_new rfl (rc_frz rfl rfl (by simp) (fun _ => rfl)) .nil
def mcv122 : MC := (.seq (.reg [oN 2 (.mv (.c (.bool false))) []] false) (.seq (.reg [oN 3 (.mv (.t 0)) [], oN 4 (.slen (.t 3)) [0], oN 5 (.call 44 []) [], oN 6 (.slen (.t 5)) [2], oN 7 (.bin .neq (.t 4) (.t 6)) [1, 3], oN 2 (.mv (.t 7)) [4, 2, 0, 1, 2, 3, 4]] false) .ret))
theorem mcOkv122 : (match Tryz.f122.body with | some c => compC Tryz.prog 8 c | none => none) = some mcv122 := by kernel_rfl
theorem vc122 (d : List Int) : FC Tryz.prog 122 [.str (strN d)] [] (.bool (shortB d)) [] false := by
  refine fc_run (nt := 8) Tryz.func122 rfl rfl mcOkv122 (Nat.le_of_ble_eq_true rfl) ?_
  delta mcv122
  refine aw_seq (aw_reg (rs_mv rfl rfl ?_))
  refine rs_nil fun _ => (th_n (aw_seq (aw_reg (rs_mv rfl rfl ?_))))
  refine rs_slen rfl rfl ?_
  refine rs_calln [] rfl rfl (vc44) (.nil) rfl ?_
  refine rs_slen rfl rfl ?_
  refine rs_neq rfl rfl rfl ?_
  refine rs_mv rfl rfl ?_
  refine rs_nil fun _ => (th_n (aw_ret ?_))
  exact ret_pure rfl rfl rfl (.inr rfl)
def mcv150 : MC := (.seq (.reg [oN 4 (.mv (.c (.int .i64 0))) []] false) (.seq (.seq (.reg [oN 6 (.mv (.t 0)) [], oN 7 (.len (.t 6)) [0], oN 8 (.mv (.c (.int .i64 0))) []] false) (.block 0 (.loop (.seq (.reg [oN 9 (.bin .lss (.t 8) (.t 7)) []] false) (.seq (.cond (.t 9) .skip (.exit 0)) (.seq (.block 1 (.seq (.reg [oN 10 (.mv (.t 8)) [], oN 5 (.mv (.t 10)) [0, 0]] false) (.seq (.reg [oN 11 (.mv (.t 1)) [], oN 12 (.mv (.t 0)) [], oN 13 (.mv (.t 5)) [], oN 14 (.ixsl 1 (.t 12) (.t 13)) [1, 2], oN 15 (.ld false 1 (.t 14)) [3], oN 16 (.callv (.t 11) [(.t 15)]) [0, 4]] false) (.cond (.t 16) (.seq (.reg [oN 17 (.mv (.t 5)) [], oN 4 (.mv (.t 17)) [0, 0]] false) .ret) .skip)))) (.reg [oN 18 (.bin .add (.t 8) (.c (.int .i64 1))) [], oN 8 (.mv (.t 18)) [0]] false))))))) (.seq (.reg [oN 4 (.mv (.c (.int .i64 (-1)))) []] false) .ret)))
theorem mcOkv150 : (match Tryz.f150.body with | some c => compC Tryz.prog 19 c | none => none) = some mcv150 := by kernel_rfl
theorem vcI_short (xs : List (List Int)) (hxn : xs.length ≤ 4611686018427387904) : FC Tryz.prog 150 [.rs 1 (xs.map cS), (.fn (.func 122) [])] [] (.int .i64 (idxS shortB xs 0)) [] false := by
  refine fc_run (nt := 19) Tryz.func150 rfl rfl mcOkv150 (Nat.le_of_ble_eq_true rfl) ?_
  delta mcv150
  refine aw_seq (aw_reg (rs_mv rfl rfl ?_))
  refine rs_nil fun _ => (th_n (aw_seq (aw_seq (aw_reg (rs_mv rfl rfl ?_)))))
  refine rs_len_m rfl rfl ?_
  refine rs_mv rfl rfl ?_
  refine rs_nil fun _ => (th_n (aw_block ?_))
  refine aw_fam (α := Nat) (fun k => xs.length - k) (fun k => [(0, .rs 1 (xs.map cS)), (1, (.fn (.func 122) [])), (6, .rs 1 (xs.map cS)), (7, iv (xs.length : Int)), (8, iv (((k) : Nat) : Int))]) (fun k => []) (fun k => k ≤ xs.length ∧ idxS shortB (xs.drop k) k = idxS shortB xs 0) 0 (⟨by omega, rfl⟩)
    (weak_to (.cons rfl sm (.cons rfl sm (.cons rfl sm (.cons rfl sm (.cons rfl sm (.nil)))))) (.nil) (fun i h => by cases h)) ?_
  rintro k ⟨hk, hinv⟩
  refine aw_seq (aw_reg (rs_lss rfl rfl rfl ?_))
  refine rs_nil fun _ => (th_n (aw_seq (aw_cond rfl (fun h9 => ?_) (fun h9 => ?_))))
  · replace h9 := of_decide_eq_true h9
    refine aw_skip (th_n (aw_seq (aw_block (aw_seq (aw_reg (rs_mv rfl rfl ?_))))))
    refine rs_mv rfl rfl ?_
    refine rs_nil fun _ => (th_n (aw_seq (aw_reg (rs_mv rfl rfl ?_))))
    refine rs_mv rfl rfl ?_
    refine rs_mv rfl rfl ?_
    obtain ⟨x, hxk, hxm⟩ := at_some (L := xs) (k := k) (by omega)
    rw [idxS_at hxk] at hinv
    
    refine rs_ix_g (f := cS) (y := x) rfl rfl rfl (by omega) hxk ?_
    refine rs_ld_r rfl rfl rfl ?_
    refine rs_callvo [] rfl rfl (by kernel_rfl) rfl (fc_up (vc122 x)) (.cons (hv_same rfl) (.nil)) .nil rfl rfl rfl ?_
    cases h16 : shortB x
    · skip
      refine rs_nil fun _ => (th_n (aw_cond rfl (fun h => by cases h) (fun _ => ?_)))
      refine aw_skip (in_n (th_n (aw_reg (rs_add rfl rfl rfl (by omega) ?_))))
      refine rs_mv rfl rfl ?_
      refine rs_nil fun _ => (th_n ?_)
      rw [h16] at hinv
      exact ⟨k + 1, ⟨by omega, hinv⟩, by omega, weak_to (.cons rfl sm (.cons rfl sm (.cons rfl sm (.cons rfl sm (.cons rfl sm (.nil)))))) (.nil) (fun i h => by cases h)⟩
    · skip
      refine rs_nil fun _ => (th_n (aw_cond rfl (fun _ => ?_) (fun h => by cases h)))
      refine aw_seq (aw_reg (rs_mv rfl rfl ?_))
      refine rs_mv rfl rfl ?_
      refine rs_nil fun _ => (th_n (aw_ret (in_r (th_r (th_r (in_r (th_r ?_)))))))
      rw [h16] at hinv
      rw [← hinv]
      exact ret_pure rfl rfl rfl (.inr rfl)
  · replace h9 := of_decide_eq_false h9
    refine aw_exit ?_
    refine th_e ?_
    refine th_e ?_
    refine in_hit ?_
    refine th_n (aw_seq (aw_reg (rs_mv rfl rfl ?_)))
    refine rs_nil fun _ => (th_n (aw_ret ?_))
    rw [idxS_end (by omega)] at hinv
    rw [← hinv]
    exact ret_pure rfl rfl rfl (.inr rfl)
def mcv123 : MC := (.seq (.reg [oN 4 (.mv (.c (.bool false))) []] false) (.seq (.reg [oN 5 (.mv (.t 0)) [], oN 6 (.mv (.t 1)) [], oN 7 (.call 150 [(.t 5), (.t 6)]) [0, 1], oN 8 (.bin .geq (.t 7) (.c (.int .i64 0))) [2], oN 4 (.mv (.t 8)) [3, 2, 0, 1, 2, 3]] false) .ret))
theorem mcOkv123 : (match Tryz.f123.body with | some c => compC Tryz.prog 9 c | none => none) = some mcv123 := by kernel_rfl
theorem vcC_short (xs : List (List Int)) (hxn : xs.length ≤ 4611686018427387904) : FC Tryz.prog 123 [.rs 1 (xs.map cS), (.fn (.func 122) [])] [] (.bool (xs.any shortB)) [] false := by
  refine fc_run (nt := 9) Tryz.func123 rfl rfl mcOkv123 (Nat.le_of_ble_eq_true rfl) ?_
  delta mcv123
  refine aw_seq (aw_reg (rs_mv rfl rfl ?_))
  refine rs_nil fun _ => (th_n (aw_seq (aw_reg (rs_mv rfl rfl ?_))))
  refine rs_mv rfl rfl ?_
  refine rs_calln [] rfl rfl (vcI_short xs hxn) (.cons (hv_same rfl) (.cons (hv_same rfl) (.nil))) rfl ?_
  refine rs_geq rfl rfl rfl ?_
  refine rs_mv rfl rfl ?_
  refine rs_nil fun _ => (th_n (aw_ret ?_))
  rw [← idxS_cond]
  exact ret_pure rfl rfl rfl (.inr rfl)
def mcv72 : MC := (.seq (.reg [oN 1 (.box 55 3 (.t 0)) [], oN 2 (.mv (.c .nils)) [], oN 3 (.mv (.c (.bool false))) [1]] false) (.seq (.seq (.reg [oN 9 (.fa 0 (.t 1)) [], oN 10 (.ld false 1 (.t 9)) [0], oN 11 (.bin .lss (.t 10) (.c (.int .i64 1))) [1], oN 12 (.mv (.t 11)) [2], oG 13 (.fa 0 (.t 1)) 12 false [3], oG 14 (.ld false 1 (.t 13)) 12 false [4, 3], oG 15 (.bin .gtr (.t 14) (.c (.int .i64 16))) 12 false [5, 3], oN 16 (.pick (.t 12) (.c (.bool true)) (.t 15)) [3, 6]] false) (.cond (.t 16) (.seq (.reg [oN 2 (.mv (.c .nils)) [], oN 3 (.mv (.c (.bool false))) [0, 0]] false) .ret) .skip)) (.seq (.reg [oN 17 (.ld true 3 (.t 1)) [], oN 18 (.call 80 [(.t 17)]) [0], oN 4 (.mv (.t 18)) [1, 1, 0, 1]] false) (.seq (.seq (.reg [oN 19 (.mv (.t 4)) [], oN 20 (.len (.t 19)) [0], oN 21 (.mv (.c (.int .i64 0))) []] false) (.block 0 (.loop (.seq (.reg [oN 22 (.bin .lss (.t 21) (.t 20)) []] false) (.seq (.cond (.t 22) .skip (.exit 0)) (.seq (.block 1 (.seq (.reg [oN 23 (.mv (.t 21)) [], oN 24 (.ixsl 1 (.t 19) (.t 21)) [], oN 25 (.ld false 1 (.t 24)) [1], oN 5 (.mv (.t 23)) [0, 0, 1, 2], oN 6 (.mv (.t 25)) [2, 3, 0, 1, 2, 3]] false) (.seq (.reg [oN 26 (.mv (.t 6)) [], oN 27 (.bin .lss (.t 26) (.c (.int .i64 0))) [0], oN 28 (.mv (.t 27)) [1], oG 29 (.mv (.t 6)) 28 false [2], oG 30 (.fa 0 (.t 1)) 28 false [2], oG 31 (.ld false 1 (.t 30)) 28 false [4, 2], oG 32 (.bin .geq (.t 29) (.t 31)) 28 false [3, 5, 2], oN 33 (.pick (.t 28) (.c (.bool true)) (.t 32)) [2, 6], oN 34 (.mv (.t 33)) [7, 2], oG 35 (.mv (.t 5)) 34 false [8], oG 36 (.bin .gtr (.t 35) (.c (.int .i64 0))) 34 false [9, 8], oG 37 (.mv (.t 36)) 34 false [10, 8, 8], oG 38 (.mv (.t 4)) 37 true [11], oG 39 (.mv (.t 5)) 37 true [11], oG 40 (.bin .sub (.t 39) (.c (.int .i64 1))) 37 true [13, 11], oG 41 (.ixsl 1 (.t 38) (.t 40)) 37 true [12, 14, 11], oG 42 (.ld false 1 (.t 41)) 37 true [15, 11], oG 43 (.mv (.t 6)) 37 true [11], oG 44 (.bin .geq (.t 42) (.t 43)) 37 true [16, 17, 11], oG 45 (.pick (.t 37) (.t 44) (.c (.bool false))) 34 false [11, 18, 8], oN 46 (.pick (.t 34) (.c (.bool true)) (.t 45)) [8, 19]] false) (.cond (.t 46) (.seq (.reg [oN 2 (.mv (.c .nils)) [], oN 3 (.mv (.c (.bool false))) [0, 0]] false) .ret) .skip)))) (.reg [oN 47 (.bin .add (.t 21) (.c (.int .i64 1))) [], oN 21 (.mv (.t 47)) [0]] false))))))) (.seq (.reg [oN 48 (.fa 0 (.t 1)) [], oN 49 (.ld false 1 (.t 48)) [0], oN 50 (.mv (.t 4)) [], oN 51 (.call 67 [(.t 49), (.t 50)]) [1, 2], oN 7 (.mv (.t 51)) [3, 3, 0, 1, 2, 3]] false) (.seq (.reg [oN 8 (.mv (.c (.fn (.func 122) []))) []] false) (.seq (.seq (.reg [oN 52 (.mv (.t 7)) [], oN 53 (.len (.t 52)) [0], oN 54 (.fa 2 (.t 1)) [], oN 55 (.ld false 1 (.t 54)) [2], oN 56 (.len (.t 55)) [3], oN 57 (.bin .neq (.t 53) (.t 56)) [1, 4], oN 58 (.mv (.t 57)) [5], oG 59 (.fa 2 (.t 1)) 58 false [6], oG 60 (.ld false 1 (.t 59)) 58 false [7, 6], oG 61 (.mv (.t 8)) 58 false [6], oG 62 (.call 123 [(.t 60), (.t 61)]) 58 false [8, 9, 6, 6], oN 63 (.pick (.t 58) (.c (.bool true)) (.t 62)) [6, 10]] false) (.cond (.t 63) (.seq (.reg [oN 2 (.mv (.c .nils)) [], oN 3 (.mv (.c (.bool false))) [0, 0]] false) .ret) .skip)) (.seq (.reg [oN 64 (.mv (.t 7)) [], oN 2 (.mv (.t 64)) [0, 0], oN 3 (.mv (.c (.bool true))) [1, 0, 1]] false) .ret))))))))
theorem mcOkv72 : (match Tryz.f72.body with | some c => compC Tryz.prog 65 c | none => none) = some mcv72 := by kernel_rfl
theorem vc72 (z : Int) (lv : List Lf) (hd : List (List Int)) (hlv : lv.length ≤ 64) (hhd : hd.length ≤ 64) : FC Tryz.prog 72 [.agg [.int .i64 z, .rs 5 (lv.map cLf), .rs 1 (hd.map cS)]] [] (.tup [.rs 2 (((fmS z lv hd).getD []).map cSp), .bool (fmS z lv hd).isSome]) [] true := by
  have hil : (ixsF lv).length = lv.length := by simp
  refine fc_run (nt := 65) Tryz.func72 rfl rfl mcOkv72 (Nat.le_of_ble_eq_true rfl) ?_
  delta mcv72
  refine aw_seq (aw_reg (rs_box rfl rfl rfl rfl rfl rfl ?_))
  refine rs_mv rfl rfl ?_
  refine rs_mv rfl rfl ?_
  refine rs_nil fun _ => (th_n (aw_seq (aw_seq (aw_reg (rs_fa_p rfl rfl ?_)))))
  refine rs_ld_p rfl rfl rfl rfl rfl ?_
  refine rs_cmp rfl rfl rfl rfl (fun h11 => ?_) (fun h11 => ?_)
  · skip
    refine rs_mv rfl rfl ?_
    refine rs_skip rfl ?_
    refine rs_skip rfl ?_
    refine rs_skip rfl ?_
    refine rs_pick rfl rfl rfl ?_
    refine rs_nil fun _ => (th_n (aw_cond rfl (fun _ => ?_) (fun h => by cases h)))
    refine aw_seq (aw_reg (rs_mv rfl rfl ?_))
    refine rs_mv rfl rfl ?_
    refine rs_nil fun _ => (th_n (aw_ret (th_r ?_)))
    rw [fm_1 (by omega)]
    exact ret_new rfl (rc_tup (.cons rc_nils (.cons (rc_same rfl (.inr rfl)) .nil))) .nil
  · skip
    refine rs_mv rfl rfl ?_
    refine rs_fa_p rfl rfl ?_
    refine rs_ld_p rfl rfl rfl rfl rfl ?_
    refine rs_cmp rfl rfl rfl rfl (fun h15 => ?_) (fun h15 => ?_)
    · skip
      refine rs_pick rfl rfl rfl ?_
      refine rs_nil fun _ => (th_n (aw_cond rfl (fun _ => ?_) (fun h => by cases h)))
      refine aw_seq (aw_reg (rs_mv rfl rfl ?_))
      refine rs_mv rfl rfl ?_
      refine rs_nil fun _ => (th_n (aw_ret (th_r ?_)))
      rw [fm_1 (by omega)]
      exact ret_new rfl (rc_tup (.cons rc_nils (.cons (rc_same rfl (.inr rfl)) .nil))) .nil
    · skip
      refine rs_pick rfl rfl rfl ?_
      refine rs_nil fun _ => (th_n (aw_cond rfl (fun h => by cases h) (fun _ => ?_)))
      refine aw_skip (th_n (aw_seq (aw_reg (rs_ld_pa rfl rfl rfl rfl (Nat.le_of_ble_eq_true rfl) rfl ?_))))
      refine rs_calln [] rfl rfl (vc80 z lv hd hlv) (.cons (hv_same rfl) (.nil)) rfl ?_
      refine rs_mv rfl rfl ?_
      refine rs_nil fun _ => (th_n (aw_seq (aw_seq (aw_reg (rs_mv rfl rfl ?_)))))
      refine rs_len_m rfl rfl ?_
      refine rs_mv rfl rfl ?_
      refine rs_nil fun _ => (th_n (aw_block ?_))
      refine aw_fam (α := Nat × Int) (fun s => (ixsF lv).length - s.1) (fun s => [(1, .ptr 1 0 0), (4, .rs 1 ((ixsF lv).map civ)), (19, .rs 1 ((ixsF lv).map civ)), (20, iv ((ixsF lv).length : Int)), (21, iv (((s.1) : Nat) : Int))]) (fun s => [(1, .cells 55 3 [[.int .i64 z, .rs 5 (lv.map cLf), .rs 1 (hd.map cS)]] true)]) (fun s => s.1 ≤ (ixsF lv).length ∧ (s.1 = 0 ∧ s.2 = -1 ∨ 1 ≤ s.1 ∧ (ixsF lv)[s.1 - 1]? = some s.2) ∧ incF z s.2 ((ixsF lv).drop s.1) = incF z (-1) (ixsF lv)) (0, -1) (⟨by omega, .inl ⟨rfl, rfl⟩, rfl⟩)
        (weak_to (.cons rfl sm (.cons rfl sm (.cons rfl sm (.cons rfl sm (.cons rfl sm (.nil)))))) (.keep (rfl) rfl (.nil)) (fun i h => by cases h)) ?_
      rintro ⟨k, p⟩ ⟨hk, hp, hinv⟩
      dsimp only at hk hp hinv ⊢
      refine aw_seq (aw_reg (rs_lss rfl rfl rfl ?_))
      refine rs_nil fun _ => (th_n (aw_seq (aw_cond rfl (fun h22 => ?_) (fun h22 => ?_))))
      · replace h22 := of_decide_eq_true h22
        refine aw_skip (th_n (aw_seq (aw_block (aw_seq (aw_reg (rs_mv rfl rfl ?_))))))
        obtain ⟨x, hxk, hxm⟩ := at_some (L := ixsF lv) (k := k) (by omega)
        rw [incF_at hxk] at hinv
        refine rs_ix_g (f := civ) (y := x) rfl rfl rfl (by omega) hxk ?_
        refine rs_ld_r rfl rfl rfl ?_
        refine rs_mv rfl rfl ?_
        refine rs_mv rfl rfl ?_
        refine rs_nil fun _ => (th_n (aw_seq (aw_reg (rs_mv rfl rfl ?_))))
        refine rs_cmp rfl rfl rfl rfl (fun h27 => ?_) (fun h27 => ?_)
        · skip
          refine rs_mv rfl rfl ?_
          refine rs_skip rfl ?_
          refine rs_skip rfl ?_
          refine rs_skip rfl ?_
          refine rs_skip rfl ?_
          refine rs_pick rfl rfl rfl ?_
          refine rs_mv rfl rfl ?_
          refine rs_skip rfl ?_
          refine rs_skip rfl ?_
          refine rs_skip rfl ?_
          refine rs_skip rfl ?_
          refine rs_skip rfl ?_
          refine rs_skip rfl ?_
          refine rs_skip rfl ?_
          refine rs_skip rfl ?_
          refine rs_skip rfl ?_
          refine rs_skip rfl ?_
          refine rs_skip rfl ?_
          refine rs_pick rfl rfl rfl ?_
          refine rs_nil fun _ => (th_n (aw_cond rfl (fun _ => ?_) (fun h => by cases h)))
          refine aw_seq (aw_reg (rs_mv rfl rfl ?_))
          refine rs_mv rfl rfl ?_
          refine rs_nil fun _ => (th_n (aw_ret (in_r (th_r (th_r (in_r (th_r ?_)))))))
          rw [fm_2 (by omega) (by rw [← hinv]; simp only [Bool.and_eq_false_iff, decide_eq_false_iff_not]; omega)]
          exact ret_new rfl (rc_tup (.cons rc_nils (.cons (rc_same rfl (.inr rfl)) .nil))) .nil
        · skip
          refine rs_mv rfl rfl ?_
          refine rs_mv rfl rfl ?_
          refine rs_fa_p rfl rfl ?_
          refine rs_ld_p rfl rfl rfl rfl rfl ?_
          refine rs_cmp rfl rfl rfl rfl (fun h32 => ?_) (fun h32 => ?_)
          · skip
            refine rs_pick rfl rfl rfl ?_
            refine rs_mv rfl rfl ?_
            refine rs_skip rfl ?_
            refine rs_skip rfl ?_
            refine rs_skip rfl ?_
            refine rs_skip rfl ?_
            refine rs_skip rfl ?_
            refine rs_skip rfl ?_
            refine rs_skip rfl ?_
            refine rs_skip rfl ?_
            refine rs_skip rfl ?_
            refine rs_skip rfl ?_
            refine rs_skip rfl ?_
            refine rs_pick rfl rfl rfl ?_
            refine rs_nil fun _ => (th_n (aw_cond rfl (fun _ => ?_) (fun h => by cases h)))
            refine aw_seq (aw_reg (rs_mv rfl rfl ?_))
            refine rs_mv rfl rfl ?_
            refine rs_nil fun _ => (th_n (aw_ret (in_r (th_r (th_r (in_r (th_r ?_)))))))
            rw [fm_2 (by omega) (by rw [← hinv]; simp only [Bool.and_eq_false_iff, decide_eq_false_iff_not]; omega)]
            exact ret_new rfl (rc_tup (.cons rc_nils (.cons (rc_same rfl (.inr rfl)) .nil))) .nil
          · skip
            refine rs_pick rfl rfl rfl ?_
            refine rs_mv rfl rfl ?_
            refine rs_mv rfl rfl ?_
            refine rs_cmp rfl rfl rfl rfl (fun h36 => ?_) (fun h36 => ?_)
            · skip
              refine rs_mv rfl rfl ?_
              refine rs_mv rfl rfl ?_
              refine rs_mv rfl rfl ?_
              refine rs_sub rfl rfl rfl (by omega) ?_
              have ha : (ixsF lv)[k - 1]? = some p := by
                rcases hp with ⟨h0, _⟩ | hp
                · omega
                · exact hp.2
              refine rs_ix_g (f := civ) (y := p) rfl rfl rfl (by omega) (by rw [show ((k : Int) - 1).toNat = k - 1 by omega]; exact ha) ?_
              refine rs_ld_r rfl rfl rfl ?_
              refine rs_mv rfl rfl ?_
              refine rs_cmp rfl rfl rfl rfl (fun h44 => ?_) (fun h44 => ?_)
              · skip
                refine rs_pick rfl rfl rfl ?_
                refine rs_pick rfl rfl rfl ?_
                refine rs_nil fun _ => (th_n (aw_cond rfl (fun _ => ?_) (fun h => by cases h)))
                refine aw_seq (aw_reg (rs_mv rfl rfl ?_))
                refine rs_mv rfl rfl ?_
                refine rs_nil fun _ => (th_n (aw_ret (in_r (th_r (th_r (in_r (th_r ?_)))))))
                rw [fm_2 (by omega) (by rw [← hinv]; simp only [Bool.and_eq_false_iff, decide_eq_false_iff_not]; omega)]
                exact ret_new rfl (rc_tup (.cons rc_nils (.cons (rc_same rfl (.inr rfl)) .nil))) .nil
              · skip
                refine rs_pick rfl rfl rfl ?_
                refine rs_pick rfl rfl rfl ?_
                refine rs_nil fun _ => (th_n (aw_cond rfl (fun h => by cases h) (fun _ => ?_)))
                refine aw_skip (in_n (th_n (aw_reg (rs_add rfl rfl rfl (by omega) ?_))))
                refine rs_mv rfl rfl ?_
                refine rs_nil fun _ => (th_n ?_)
                rw [show (decide (0 ≤ x) && decide (x < z) && decide (p < x)) = true from by simp only [Bool.and_eq_true, decide_eq_true_eq]; exact ⟨⟨by omega, by omega⟩, by omega⟩, Bool.true_and] at hinv
                exact ⟨(k + 1, x), ⟨by show k + 1 ≤ _; omega, .inr ⟨by show 1 ≤ k + 1; omega, hxk⟩, hinv⟩, by show _ - (k + 1) < _; omega, weak_to (.cons rfl sm (.cons rfl sm (.cons rfl sm (.cons rfl sm (.cons rfl sm (.nil)))))) (.keep (rfl) rfl (.nil)) (fun i h => by cases h)⟩
            · skip
              refine rs_mv rfl rfl ?_
              refine rs_skip rfl ?_
              refine rs_skip rfl ?_
              refine rs_skip rfl ?_
              refine rs_skip rfl ?_
              refine rs_skip rfl ?_
              refine rs_skip rfl ?_
              refine rs_skip rfl ?_
              refine rs_pick rfl rfl rfl ?_
              refine rs_pick rfl rfl rfl ?_
              refine rs_nil fun _ => (th_n (aw_cond rfl (fun h => by cases h) (fun _ => ?_)))
              refine aw_skip (in_n (th_n (aw_reg (rs_add rfl rfl rfl (by omega) ?_))))
              refine rs_mv rfl rfl ?_
              refine rs_nil fun _ => (th_n ?_)
              rw [show (decide (0 ≤ x) && decide (x < z) && decide (p < x)) = true from by simp only [Bool.and_eq_true, decide_eq_true_eq]; exact ⟨⟨by omega, by omega⟩, hp.elim (fun h => by omega) (fun h => by omega)⟩, Bool.true_and] at hinv
              exact ⟨(k + 1, x), ⟨by show k + 1 ≤ _; omega, .inr ⟨by show 1 ≤ k + 1; omega, hxk⟩, hinv⟩, by show _ - (k + 1) < _; omega, weak_to (.cons rfl sm (.cons rfl sm (.cons rfl sm (.cons rfl sm (.cons rfl sm (.nil)))))) (.keep (rfl) rfl (.nil)) (fun i h => by cases h)⟩
      · replace h22 := of_decide_eq_false h22
        refine aw_exit ?_
        refine th_e ?_
        refine th_e ?_
        refine in_hit ?_
        refine th_n (aw_seq ?_)
        obtain rfl : k = (ixsF lv).length := by omega
        replace hinv : incF z (-1) (ixsF lv) = true := by rw [← hinv, List.drop_eq_nil_of_le (Nat.le_refl _)]; rfl
        refine aw_reg (rs_fa_p rfl rfl ?_)
        have hzn : ((z.toNat : Nat) : Int) = z := by omega
        refine rs_ld_p rfl rfl rfl rfl rfl ?_
        refine rs_mv rfl rfl ?_
        refine rs_calln [] rfl rfl (vc67 z.toNat (by omega) (ixsF lv) (by omega)) (.cons (hv_int hzn.symm) (.cons (hv_same rfl) (.nil))) rfl ?_
        refine rs_mv rfl rfl ?_
        refine rs_nil fun _ => (th_n (aw_seq (aw_reg (rs_mv rfl rfl ?_))))
        refine rs_nil fun _ => (th_n (aw_seq (aw_seq (aw_reg (rs_mv rfl rfl ?_)))))
        refine rs_len_m rfl rfl ?_
        refine rs_fa_p rfl rfl ?_
        refine rs_ld_p rfl rfl rfl rfl rfl ?_
        refine rs_len_m rfl rfl ?_
        refine rs_cmp rfl rfl rfl rfl (fun h57 => ?_) (fun h57 => ?_)
        · skip
          refine rs_mv rfl rfl ?_
          refine rs_skip rfl ?_
          refine rs_skip rfl ?_
          refine rs_skip rfl ?_
          refine rs_skip rfl ?_
          refine rs_pick rfl rfl rfl ?_
          refine rs_nil fun _ => (th_n (aw_cond rfl (fun _ => ?_) (fun h => by cases h)))
          refine aw_seq (aw_reg (rs_mv rfl rfl ?_))
          refine rs_mv rfl rfl ?_
          refine rs_nil fun _ => (th_n (aw_ret (th_r ?_)))
          rw [fm_3 (by omega) hinv h57]
          exact ret_new rfl (rc_tup (.cons rc_nils (.cons (rc_same rfl (.inr rfl)) .nil))) .nil
        · skip
          refine rs_mv rfl rfl ?_
          refine rs_fa_p rfl rfl ?_
          refine rs_ld_p rfl rfl rfl rfl rfl ?_
          refine rs_mv rfl rfl ?_
          refine rs_calln [] rfl rfl (vcC_short hd (by omega)) (.cons (hv_same rfl) (.cons (hv_same rfl) (.nil))) rfl ?_
          cases h62 : hd.any shortB
          · skip
            refine rs_pick rfl rfl rfl ?_
            refine rs_nil fun _ => (th_n (aw_cond rfl (fun h => by cases h) (fun _ => ?_)))
            refine aw_skip (th_n (aw_seq (aw_reg (rs_mv rfl rfl ?_))))
            refine rs_mv rfl rfl ?_
            refine rs_mv rfl rfl ?_
            refine rs_nil fun _ => (th_n (aw_ret ?_))
            rw [fm_5 (by omega) hinv h57 h62]
            exact ret_new rfl (rc_tup (.cons sm (.cons (rc_same rfl (.inr rfl)) .nil))) .nil
          · skip
            refine rs_pick rfl rfl rfl ?_
            refine rs_nil fun _ => (th_n (aw_cond rfl (fun _ => ?_) (fun h => by cases h)))
            refine aw_seq (aw_reg (rs_mv rfl rfl ?_))
            refine rs_mv rfl rfl ?_
            refine rs_nil fun _ => (th_n (aw_ret (th_r ?_)))
            rw [fm_4 (by omega) hinv h57 h62]
            exact ret_new rfl (rc_tup (.cons rc_nils (.cons (rc_same rfl (.inr rfl)) .nil))) .nil
end Go.Proofs.YthfhaoogcpfboaaGreat

/-! Walks: VF. -/
namespace Go.Proofs.YthfhaoogcpfboaaGreat
open Go.RowKit
set_option maxRecDepth 100000
set_option linter.unusedVariables false
theorem idxS_lt {α : Type} {p : α → Bool} : ∀ (l : List α) (k : Nat), idxS p l k < ((k + l.length : Nat) : Int)
  | [], k => by show (-1 : Int) < _; omega
  | x :: l, k => by
    unfold idxS
    split
    · simp only [List.length_cons]; omega
    · have := idxS_lt (p := p) l (k + 1); simp only [List.length_cons]; omega
/-- What a Shown tells of the tree. -/
def knR (sp : List (Nat × Nat)) (hd : List (List Int)) (ls : List Lf) (b m : Nat) : Option (List Int) :=
  if 0 ≤ idxS (spEq b m) sp 0 then some (hd.getD (idxS (spEq b m) sp 0).toNat []) else ofK ls b m
theorem knR_t {sp : List (Nat × Nat)} {hd : List (List Int)} {ls : List Lf} {b m : Nat} {x : List Int} (h : idxS (spEq b m) sp 0 ≥ 0) (hx : hd[(idxS (spEq b m) sp 0).toNat]? = some x) : knR sp hd ls b m = some x := by
  unfold knR; rw [if_pos h, getD_at hx]
theorem knR_f {sp : List (Nat × Nat)} {hd : List (List Int)} {ls : List Lf} {b m : Nat} (h : ¬ idxS (spEq b m) sp 0 ≥ 0) : knR sp hd ls b m = ofK ls b m := by unfold knR; rw [if_neg h]
theorem knR_ok {sp : List (Nat × Nat)} {hd : List (List Int)} (ls : List Lf) (hh : ∀ d ∈ hd, B8 d ∧ d.length ≤ LIM) (hn : sp.length = hd.length) : KnOK (knR sp hd ls) where
  one b := by
    unfold knR
    split
    · rfl
    · exact (ofK_ok ls).one b
  ok b m x h := by
    unfold knR at h
    split at h
    · rename_i hi
      injection h with h
      have := idxS_lt (p := spEq b m) sp 0
      obtain ⟨d, hd0, hdm⟩ := at_some (L := hd) (k := (idxS (spEq b m) sp 0).toNat) (by omega)
      rw [← h, getD_at hd0]; exact hh d hdm
    · exact (ofK_ok ls).ok b m x h
def dfL : Lf := ⟨0, 0, false, false, []⟩
/-- The list of leaves that a Shown fills. -/
def fillL (n : Nat) (lv : List Lf) : List Lf := lv.foldl (fun l x => l.set x.ix.toNat x) (List.replicate n dfL)
theorem fill_len (n : Nat) (lv : List Lf) : (fillL n lv).length = n := by
  have key : ∀ (lv l : List Lf), (lv.foldl (fun l x => l.set x.ix.toNat x) l).length = l.length := by
    intro lv
    induction lv with
    | nil => intro l; rfl
    | cons x lv ih => intro l; rw [List.foldl_cons, ih, List.length_set]
  unfold fillL; rw [key, List.length_replicate]
theorem fill_succ {n : Nat} {lv : List Lf} {k : Nat} {x : Lf} (h : lv[k]? = some x) : fillL n (lv.take (k + 1)) = (fillL n (lv.take k)).set x.ix.toNat x := by unfold fillL; rw [take_succ_at h, List.foldl_append]; rfl
theorem fill_ok {n : Nat} {lv : List Lf} (hn : n ≤ 64) (h : ∀ x ∈ lv, x.OK) : LsOK (fillL n lv) := by
  refine ⟨by rw [fill_len]; exact hn, ?_⟩
  have key : ∀ (lv l : List Lf), (∀ x ∈ lv, x.OK) → (∀ x ∈ l, x.OK) → ∀ x ∈ lv.foldl (fun l x => l.set x.ix.toNat x) l, x.OK := by
    intro lv
    induction lv with
    | nil => intro l _ hl; exact hl
    | cons y lv ih =>
      intro l hv hl
      rw [List.foldl_cons]
      refine ih _ (fun x hx => hv x (List.mem_cons_of_mem _ hx)) fun x hx => ?_
      rcases List.mem_or_eq_of_mem_set hx with hx | hx
      · exact hl x hx
      · rw [hx]; exact hv y (List.mem_cons_self ..)
  refine key lv _ h fun x hx => ?_
  rw [(List.mem_replicate.1 hx).2]
  exact ⟨⟨by decide, by decide⟩, ⟨by decide, by decide⟩, (fun x hx => by cases hx), by decide⟩
theorem fill_0 (n : Nat) : List.replicate n (cLf dfL) = (fillL n ([] : List Lf)).map cLf := by unfold fillL; simp
/-- The root of a Shown: none without the form. -/
def rootOfS (z : Int) (lv : List Lf) (hd : List (List Int)) : Option (List Int) := (fmS z lv hd).map fun sp => treeD (knR sp hd (fillL z.toNat lv)) (lg z.toNat) 0
theorem fm_parts {z : Int} {lv : List Lf} {hdl : List (List Int)} {sp : List (Nat × Nat)} (h : fmS z lv hdl = some sp) : (1 ≤ z ∧ z ≤ 16) ∧ incF z (-1) (ixsF lv) = true ∧ sp = hidA z.toNat (ixsF lv) ∧ sp.length = hdl.length ∧ ∀ d ∈ hdl, d.length = 8 := by
  unfold fmS at h
  split at h
  · cases h
  split at h
  · cases h
  split at h
  · cases h
  split at h
  · cases h
  rename_i h1 h2 h3 h4
  injection h with h
  subst h
  refine ⟨by omega, by simpa using h2, rfl, by omega, fun d hd => ?_⟩
  have h5 : hdl.any shortB = false := by simpa using h4
  have := List.any_eq_false.1 h5 d hd
  simp only [shortB, decide_eq_true_eq] at this
  omega
def mcv74 : MC := (.seq (.reg [oN 3 (.box 110 2 (.t 1)) [], oN 4 (.mv (.c (.int .i64 0))) []] false) (.seq (.seq (.reg [oN 6 (.mv (.t 0)) [], oN 7 (.len (.t 6)) [0], oN 8 (.mv (.c (.int .i64 0))) []] false) (.block 0 (.loop (.seq (.reg [oN 9 (.bin .lss (.t 8) (.t 7)) []] false) (.seq (.cond (.t 9) .skip (.exit 0)) (.seq (.block 1 (.seq (.reg [oN 10 (.mv (.t 8)) [], oN 5 (.mv (.t 10)) [0, 0]] false) (.seq (.reg [oN 11 (.ld true 2 (.t 3)) [], oN 12 (.mv (.t 0)) [], oN 13 (.mv (.t 5)) [], oN 14 (.ixsl 2 (.t 12) (.t 13)) [1, 2], oN 15 (.ld true 2 (.t 14)) [3], oN 16 (.aeq false 2 (.t 11) (.t 15)) [0, 4]] true) (.cond (.t 16) (.seq (.reg [oN 17 (.mv (.t 5)) [], oN 4 (.mv (.t 17)) [0, 0]] false) .ret) .skip)))) (.reg [oN 18 (.bin .add (.t 8) (.c (.int .i64 1))) [], oN 8 (.mv (.t 18)) [0]] false))))))) (.seq (.reg [oN 4 (.mv (.c (.int .i64 (-1)))) []] false) .ret)))
theorem mcOkv74 : (match Tryz.f74.body with | some c => compC Tryz.prog 19 c | none => none) = some mcv74 := by kernel_rfl
theorem vc74 (sp : List (Nat × Nat)) (b m : Nat) (hsn : sp.length ≤ 1000) : FC Tryz.prog 74 [.rs 2 (sp.map cSp), .agg (cP b m)] [] (.int .i64 (idxS (spEq b m) sp 0)) [] false := by
  refine fc_run (nt := 19) Tryz.func74 rfl rfl mcOkv74 (Nat.le_of_ble_eq_true rfl) ?_
  delta mcv74
  refine aw_seq (aw_reg (rs_box rfl rfl rfl rfl rfl rfl ?_))
  refine rs_mv rfl rfl ?_
  refine rs_nil fun _ => (th_n (aw_seq (aw_seq (aw_reg (rs_mv rfl rfl ?_)))))
  refine rs_len_m rfl rfl ?_
  refine rs_mv rfl rfl ?_
  refine rs_nil fun _ => (th_n (aw_block ?_))
  refine aw_fam (α := Nat) (fun k => sp.length - k) (fun k => [(0, .rs 2 (sp.map cSp)), (3, .ptr 3 0 0), (6, .rs 2 (sp.map cSp)), (7, iv (sp.length : Int)), (8, iv (((k) : Nat) : Int))]) (fun k => [(3, .cells 110 2 [cP b m] true)]) (fun k => k ≤ sp.length ∧ idxS (spEq b m) (sp.drop k) k = idxS (spEq b m) sp 0) 0 (⟨by omega, rfl⟩)
    (weak_to (.cons rfl sm (.cons rfl sm (.cons rfl sm (.cons rfl sm (.cons rfl sm (.nil)))))) (.keep (rfl) rfl (.nil)) (fun i h => by cases h)) ?_
  rintro k ⟨hk, hinv⟩
  refine aw_seq (aw_reg (rs_lss rfl rfl rfl ?_))
  refine rs_nil fun _ => (th_n (aw_seq (aw_cond rfl (fun h9 => ?_) (fun h9 => ?_))))
  · replace h9 := of_decide_eq_true h9
    refine aw_skip (th_n (aw_seq (aw_block (aw_seq (aw_reg (rs_mv rfl rfl ?_))))))
    refine rs_mv rfl rfl ?_
    refine rs_nil fun _ => (th_n (aw_seq (aw_draw hmix ?_)))
    obtain ⟨x, hxk, hxm⟩ := at_some (L := sp) (k := k) (by omega)
    rw [idxS_at hxk] at hinv
    refine rs_ld_pa rfl rfl rfl rfl (Nat.le_of_ble_eq_true rfl) rfl ?_
    refine rs_mv rfl rfl ?_
    refine rs_mv rfl rfl ?_
    refine rs_ix_g (f := cSp) (y := x) rfl rfl rfl (by omega) hxk ?_
    refine rs_ld_ra (cs := cSp x) rfl rfl (Nat.le_of_ble_eq_true rfl) rfl ?_
    refine rs_aeq [(b : Int), (m : Int)] [(x.1 : Int), (x.2 : Int)] rfl rfl rfl rfl rfl rfl rfl (spEq_aeq b m x) ?_
    cases h16 : spEq b m x
    · skip
      refine rs_nil ⟨by kernel_rfl, fun _ => ?_⟩
      refine th_n (aw_cond rfl (fun h => by cases h) (fun _ => ?_))
      refine aw_skip (in_n (th_n (aw_reg (rs_add rfl rfl rfl (by omega) ?_))))
      refine rs_mv rfl rfl ?_
      refine rs_nil fun _ => (th_n ?_)
      rw [h16] at hinv
      exact ⟨k + 1, ⟨by omega, hinv⟩, by omega, weak_to (.cons rfl sm (.cons rfl sm (.cons rfl sm (.cons rfl sm (.cons rfl sm (.nil)))))) (.keep (rfl) rfl (.nil)) (fun i h => by cases h)⟩
    · skip
      refine rs_nil ⟨by kernel_rfl, fun _ => ?_⟩
      refine th_n (aw_cond rfl (fun _ => ?_) (fun h => by cases h))
      refine aw_seq (aw_reg (rs_mv rfl rfl ?_))
      refine rs_mv rfl rfl ?_
      refine rs_nil fun _ => (th_n (aw_ret (in_r (th_r (th_r (in_r (th_r ?_)))))))
      rw [h16] at hinv
      rw [← hinv]
      exact ret_pure rfl rfl rfl (.inr rfl)
  · replace h9 := of_decide_eq_false h9
    refine aw_exit ?_
    refine th_e ?_
    refine th_e ?_
    refine in_hit ?_
    refine th_n (aw_seq (aw_reg (rs_mv rfl rfl ?_)))
    refine rs_nil fun _ => (th_n (aw_ret ?_))
    rw [idxS_end (by omega)] at hinv
    rw [← hinv]
    exact ret_pure rfl rfl rfl (.inr rfl)
def mcv73 : MC := (.seq (.reg [oN 4 (.box 110 2 (.t 0)) [], oN 5 (.mv (.c (.str (strN [])))) [], oN 6 (.mv (.c (.bool false))) [1]] false) (.seq (.seq (.reg [oN 8 (.ld false 1 (.t 1)) [], oN 9 (.ld true 2 (.t 4)) [], oN 10 (.call 74 [(.t 8), (.t 9)]) [0, 1], oN 7 (.mv (.t 10)) [2, 2, 0, 1, 2]] false) (.seq (.reg [oN 11 (.mv (.t 7)) [], oN 12 (.bin .geq (.t 11) (.c (.int .i64 0))) [0]] false) (.cond (.t 12) (.seq (.reg [oN 13 (.fa 2 (.t 2)) [], oN 14 (.ld false 1 (.t 13)) [0], oN 15 (.mv (.t 7)) [], oN 16 (.ixsl 1 (.t 14) (.t 15)) [1, 2], oN 17 (.ld false 1 (.t 16)) [3], oN 5 (.mv (.t 17)) [4, 0, 1, 2, 3, 4], oN 6 (.mv (.c (.bool true))) [5, 0, 1, 2, 3, 4, 5]] false) .ret) .skip))) (.seq (.reg [oN 18 (.ld false 1 (.t 3)) [], oN 19 (.ld true 2 (.t 4)) [], oN 20 (.callv (.t 18) [(.t 19)]) [0, 1], oN 21 (.ext (.t 20) 0) [2], oN 22 (.ext (.t 20) 1) [2], oN 5 (.mv (.t 21)) [3, 2, 0, 1, 2, 3, 4], oN 6 (.mv (.t 22)) [4, 5, 0, 1, 2, 3, 4, 5]] false) .ret)))
theorem mcOkv73 : (match Tryz.f73.body with | some c => compC Tryz.prog 23 c | none => none) = some mcv73 := by kernel_rfl
theorem vc73 (sp : List (Nat × Nat)) (z : Int) (lv : List Lf) (hd : List (List Int)) (ls : List Lf) (hl : LsOK ls) (hsn : sp.length ≤ 1000) (hsp : sp.length = hd.length) (b m : Nat) : FC Tryz.prog 73 [.agg (cP b m), .rp [.rs 2 (sp.map cSp)], .rp [.int .i64 z, .rs 5 (lv.map cLf), .rs 1 (hd.map cS)], .rp [.fn (.func 119) [.rp [.rs 5 (ls.map cLf)]]]] [] (.tup [.str (strN ((knR sp hd ls (b) (m)).getD [])), .bool (knR sp hd ls (b) (m)).isSome]) [] false := by
  have hlt := idxS_lt (p := spEq b m) sp 0
  refine fc_run (nt := 23) Tryz.func73 rfl rfl mcOkv73 (Nat.le_of_ble_eq_true rfl) ?_
  delta mcv73
  refine aw_seq (aw_reg (rs_box rfl rfl rfl rfl rfl rfl ?_))
  refine rs_mv rfl rfl ?_
  refine rs_mv rfl rfl ?_
  refine rs_nil fun _ => (th_n (aw_seq (aw_seq (aw_reg (rs_ld_r rfl rfl rfl ?_)))))
  refine rs_ld_pa rfl rfl rfl rfl (Nat.le_of_ble_eq_true rfl) rfl ?_
  refine rs_calln [] rfl rfl (vc74 sp b m hsn) (.cons (hv_same rfl) (.cons (hv_same rfl) (.nil))) rfl ?_
  refine rs_mv rfl rfl ?_
  refine rs_nil fun _ => (th_n (aw_seq (aw_reg (rs_mv rfl rfl ?_))))
  refine rs_geq rfl rfl rfl ?_
  refine rs_nil fun _ => (th_n (aw_cond rfl (fun h12 => ?_) (fun h12 => ?_)))
  · replace h12 := of_decide_eq_true h12
    refine aw_seq (aw_reg (rs_fa_r rfl rfl rfl ?_))
    refine rs_ld_r rfl rfl rfl ?_
    refine rs_mv rfl rfl ?_
    obtain ⟨x, hx, hxm⟩ := at_some (L := hd) (k := (idxS (spEq b m) sp 0).toNat) (by omega)
    refine rs_ix_g (f := cS) (y := x) rfl rfl rfl (by omega) hx ?_
    refine rs_ld_r rfl rfl rfl ?_
    refine rs_mv rfl rfl ?_
    refine rs_mv rfl rfl ?_
    refine rs_nil fun _ => (th_n (aw_ret (th_r ?_)))
    rw [knR_t h12 hx]
    exact ret_pure rfl rfl rfl (.inr rfl)
  · replace h12 := of_decide_eq_false h12
    refine aw_skip (th_n (aw_seq (aw_reg (rs_ld_r rfl rfl rfl ?_))))
    refine rs_ld_pa rfl rfl rfl rfl (Nat.le_of_ble_eq_true rfl) rfl ?_
    refine rs_callvo [] rfl rfl (by kernel_rfl) rfl (fc_up (vc119 ls hl b m)) (.cons (hv_same rfl) (.cons (hv_same rfl) (.nil))) .nil rfl rfl rfl ?_
    refine rs_ext rfl rfl rfl ?_
    refine rs_ext rfl rfl rfl ?_
    refine rs_mv rfl rfl ?_
    refine rs_mv rfl rfl ?_
    refine rs_nil fun _ => (th_n (aw_ret ?_))
    rw [knR_f h12]
    exact ret_pure rfl rfl rfl (.inr rfl)
theorem as69w2 (sp : List (Nat × Nat)) (z : Int) (lv : List Lf) (hd : List (List Int)) (ls : List Lf) (kn : Nat → Nat → Option (List Int)) (d b c : Nat) (l : List (List Int)) (hc : c + 2 ^ d ≤ 64) (hl : l.length ≤ 1) (o : Loop) (lb : Nat) : AW Tryz.prog 33 [900, 7, 903] (some lb) as69 (fun e F' H' => e = .normal ∧ Weak 33 [900, 7, 903] F' H' [(8, .ptr 8 0 0), (7, .ptr 7 0 0), (2, .rp [(.fn (.func 73) [.rp [.rs 2 (sp.map cSp)], .rp [.int .i64 z, .rs 5 (lv.map cLf), .rs 1 (hd.map cS)], .rp [.fn (.func 119) [.rp [.rs 5 (ls.map cLf)]]]])])] [(900, .lp o [(18, .fn (.func 149) [.rp (cP b (2 ^ (d + 1)))]), (7, .ptr 7 0 0), (2, .rp [(.fn (.func 73) [.rp [.rs 2 (sp.map cSp)], .rp [.int .i64 z, .rs 5 (lv.map cLf), .rs 1 (hd.map cS)], .rp [.fn (.func 119) [.rp [.rs 5 (ls.map cLf)]]]])])]), (7, .cells 47 1 [[.sl 903 0 (l).length]] false), (903, .cells 9 1 ((l).map cS) true), (8, .cells 110 2 [cP c (2 ^ d)] true)]) [(19, .agg (cP c (2 ^ d))), (18, .fn (.func 149) [.rp (cP b (2 ^ (d + 1)))]), (7, .ptr 7 0 0), (2, .rp [(.fn (.func 73) [.rp [.rs 2 (sp.map cSp)], .rp [.int .i64 z, .rs 5 (lv.map cLf), .rs 1 (hd.map cS)], .rp [.fn (.func 119) [.rp [.rs 5 (ls.map cLf)]]]])])] [(900, .lp o [(18, .fn (.func 149) [.rp (cP b (2 ^ (d + 1)))]), (7, .ptr 7 0 0), (2, .rp [(.fn (.func 73) [.rp [.rs 2 (sp.map cSp)], .rp [.int .i64 z, .rs 5 (lv.map cLf), .rs 1 (hd.map cS)], .rp [.fn (.func 119) [.rp [.rs 5 (ls.map cLf)]]]])])]), (7, .cells 47 1 [[.sl 903 0 (l).length]] false), (903, .cells 9 1 ((l).map cS) true)] := by
  delta as69
  refine aw_reg ?_
  refine rs_alloc rfl rfl rfl ?_
  refine rs_st rfl rfl rfl rfl rfl rfl rfl (Nat.le_of_ble_eq_true rfl) rfl rfl ?_
  refine rs_nil fun _ => ?_
  exact ⟨rfl, weak_to (.cons rfl sm (.cons rfl sm (.cons rfl sm (.nil)))) (.keep (rfl) rfl (.keep (rfl) rfl (.keep (rfl) rfl (.keep (rfl) rfl (.nil))))) (fun i hi => by simp [keysOf] at hi ⊢; omega)⟩
theorem bd69w2 (sp : List (Nat × Nat)) (z : Int) (lv : List Lf) (hd : List (List Int)) (ls : List Lf) (kn : Nat → Nat → Option (List Int)) (d b c : Nat) (l : List (List Int)) (hc : c + 2 ^ d ≤ 64) (hl : l.length ≤ 1) (ih : ∀ c, c + 2 ^ d ≤ 64 → FC Tryz.prog 69 [(.fn (.func 73) [.rp [.rs 2 (sp.map cSp)], .rp [.int .i64 z, .rs 5 (lv.map cLf), .rs 1 (hd.map cS)], .rp [.fn (.func 119) [.rp [.rs 5 (ls.map cLf)]]]]), .agg (cP c (2 ^ d))] [] (.str (strN (treeD kn d c))) [] false) (o : Loop) (lb : Nat) : AW Tryz.prog 33 [900, 7, 903] (some lb) bd69 (fun e F' H' => e = .normal ∧ Weak 33 [900, 7, 903] F' H' [] [(900, .lp o [(18, .fn (.func 149) [.rp (cP b (2 ^ (d + 1)))]), (7, .ptr 7 0 0), (2, .rp [(.fn (.func 73) [.rp [.rs 2 (sp.map cSp)], .rp [.int .i64 z, .rs 5 (lv.map cLf), .rs 1 (hd.map cS)], .rp [.fn (.func 119) [.rp [.rs 5 (ls.map cLf)]]]])])]), (7, .cells 47 1 [[.sl 25 0 (l ++ [treeD kn d c]).length]] false), (25, .cells 9 1 ((l ++ [treeD kn d c]).map cS) true), (903, .dead)]) [(8, .ptr 8 0 0), (7, .ptr 7 0 0), (2, .rp [(.fn (.func 73) [.rp [.rs 2 (sp.map cSp)], .rp [.int .i64 z, .rs 5 (lv.map cLf), .rs 1 (hd.map cS)], .rp [.fn (.func 119) [.rp [.rs 5 (ls.map cLf)]]]])])] [(900, .lp o [(18, .fn (.func 149) [.rp (cP b (2 ^ (d + 1)))]), (7, .ptr 7 0 0), (2, .rp [(.fn (.func 73) [.rp [.rs 2 (sp.map cSp)], .rp [.int .i64 z, .rs 5 (lv.map cLf), .rs 1 (hd.map cS)], .rp [.fn (.func 119) [.rp [.rs 5 (ls.map cLf)]]]])])]), (7, .cells 47 1 [[.sl 903 0 (l).length]] false), (903, .cells 9 1 ((l).map cS) true), (8, .cells 110 2 [cP c (2 ^ d)] true)] := by
  delta bd69
  refine aw_block ?_
  refine aw_draw hmix ?_
  refine rs_ld_p rfl rfl rfl rfl rfl ?_
  refine rs_ld_r rfl rfl rfl ?_
  refine rs_ld_pa rfl rfl rfl rfl (Nat.le_of_ble_eq_true rfl) rfl ?_
  refine rs_calln [] rfl rfl (ih c hc) (.cons (hv_same rfl) (.cons (hv_same rfl) (.nil))) rfl ?_
  refine rs_bslice (l := (([treeD kn d c] : List (List Int))).flatMap cS) (els := (([treeD kn d c] : List (List Int))).map cS) (fl := true) rfl (by kernel_rfl) rfl rfl (by kernel_rfl) (by kernel_rfl) ?_
  refine rs_app_m (f := cS) (xs := l) (y := treeD kn d c) (fl' := true) rfl rfl rfl rfl rfl rfl rfl rfl (by decide) rfl (by omega) (by omega) rfl ?_
  refine rs_st rfl rfl rfl rfl rfl rfl rfl (Nat.le_of_ble_eq_true rfl) rfl rfl ?_
  refine rs_nil ⟨by kernel_rfl, fun _ => ?_⟩
  refine in_n ?_
  exact ⟨rfl, weak_to (.nil) (.keep (rfl) rfl (.keep (by rw [len_snoc]; rfl) rfl (.keep (rfl) rfl (.keep (rfl) rfl (.nil))))) (fun i hi => by simp [keysOf] at hi ⊢; omega)⟩
theorem y69_2 (sp : List (Nat × Nat)) (z : Int) (lv : List Lf) (hd : List (List Int)) (ls : List Lf) (kn : Nat → Nat → Option (List Int)) (d b c : Nat) (l : List (List Int)) (hc : c + 2 ^ d ≤ 64) (hl : l.length ≤ 1) (ih : ∀ c, c + 2 ^ d ≤ 64 → FC Tryz.prog 69 [(.fn (.func 73) [.rp [.rs 2 (sp.map cSp)], .rp [.int .i64 z, .rs 5 (lv.map cLf), .rs 1 (hd.map cS)], .rp [.fn (.func 119) [.rp [.rs 5 (ls.map cLf)]]]]), .agg (cP c (2 ^ d))] [] (.str (strN (treeD kn d c))) [] false) (r0 : Loop) (h : Rec0 Tryz.prog 33 [19] as69 bd69 r0) :
    FCg (yieldSem Tryz.prog) [.yl 900, .agg (cP c (2 ^ d))] [(900, .lp r0 [(18, .fn (.func 149) [.rp (cP b (2 ^ (d + 1)))]), (7, .ptr 7 0 0), (2, .rp [(.fn (.func 73) [.rp [.rs 2 (sp.map cSp)], .rp [.int .i64 z, .rs 5 (lv.map cLf), .rs 1 (hd.map cS)], .rp [.fn (.func 119) [.rp [.rs 5 (ls.map cLf)]]]])])]), (7, .cells 47 1 [[.sl 903 0 (l).length]] false), (903, .cells 9 1 ((l).map cS) true)] (.bool true) [(900, .lp r0 [(18, .fn (.func 149) [.rp (cP b (2 ^ (d + 1)))]), (7, .ptr 7 0 0), (2, .rp [(.fn (.func 73) [.rp [.rs 2 (sp.map cSp)], .rp [.int .i64 z, .rs 5 (lv.map cLf), .rs 1 (hd.map cS)], .rp [.fn (.func 119) [.rp [.rs 5 (ls.map cLf)]]]])])]), (7, .cells 47 1 [[.sl 25 0 (l ++ [treeD kn d c]).length]] false), (25, .cells 9 1 ((l ++ [treeD kn d c]).map cS) true), (903, .dead)] true := by
  have := round_yield (P := Tryz.prog) (F := [(18, .fn (.func 149) [.rp (cP b (2 ^ (d + 1)))]), (7, .ptr 7 0 0), (2, .rp [(.fn (.func 73) [.rp [.rs 2 (sp.map cSp)], .rp [.int .i64 z, .rs 5 (lv.map cLf), .rs 1 (hd.map cS)], .rp [.fn (.func 119) [.rp [.rs 5 (ls.map cLf)]]]])])]) (N := 33) (x := as69) (y := bd69) h.ca h.cb (li := 900) (ps := [19]) (vs := [.agg (cP c (2 ^ d))]) (J := [(7, .cells 47 1 [[.sl 903 0 (l).length]] false), (903, .cells 9 1 ((l).map cS) true)]) (J1 := [(7, .cells 47 1 [[.sl 903 0 (l).length]] false), (903, .cells 9 1 ((l).map cS) true), (8, .cells 110 2 [cP c (2 ^ d)] true)]) (J' := [(7, .cells 47 1 [[.sl 25 0 (l ++ [treeD kn d c]).length]] false), (25, .cells 9 1 ((l ++ [treeD kn d c]).map cS) true), (903, .dead)]) (Fb := [(8, .ptr 8 0 0), (7, .ptr 7 0 0), (2, .rp [(.fn (.func 73) [.rp [.rs 2 (sp.map cSp)], .rp [.int .i64 z, .rs 5 (lv.map cLf), .rs 1 (hd.map cS)], .rp [.fn (.func 119) [.rp [.rs 5 (ls.map cLf)]]]])])]) (Z0 := [900, 7, 903]) .normal none (.inl ⟨rfl, rfl⟩)
    rfl rfl (fun i hi => mem_keys.1 hi) (by simp) (fun i h => mem_keys.2 h) (fun i hi => mem_keys.1 (by simp [keysOf] at hi ⊢; omega)) h.state h.params rfl rfl h.size (fun t v h => get_mem h) (fun lb o => as69w2 sp z lv hd ls kn d b c l hc hl o lb) (fun lb o => bd69w2 sp z lv hd ls kn d b c l hc hl ih o lb)
  rw [rec_same h.state h.pending] at this
  exact this
theorem vc149d2 (sp : List (Nat × Nat)) (z : Int) (lv : List Lf) (hd : List (List Int)) (ls : List Lf) (kn : Nat → Nat → Option (List Int)) (d b : Nat) (hb : b + 2 ^ (d + 1) ≤ 64) (r0 : Loop) (hy : ∀ (c : Nat) (l : List (List Int)), c + 2 ^ d ≤ 64 → l.length ≤ 1 → FCg (yieldSem Tryz.prog) [.yl 900, .agg (cP c (2 ^ d))] [(900, .lp r0 [(18, .fn (.func 149) [.rp (cP b (2 ^ (d + 1)))]), (7, .ptr 7 0 0), (2, .rp [(.fn (.func 73) [.rp [.rs 2 (sp.map cSp)], .rp [.int .i64 z, .rs 5 (lv.map cLf), .rs 1 (hd.map cS)], .rp [.fn (.func 119) [.rp [.rs 5 (ls.map cLf)]]]])])]), (7, .cells 47 1 [[.sl 903 0 (l).length]] false), (903, .cells 9 1 ((l).map cS) true)] (.bool true) [(900, .lp r0 [(18, .fn (.func 149) [.rp (cP b (2 ^ (d + 1)))]), (7, .ptr 7 0 0), (2, .rp [(.fn (.func 73) [.rp [.rs 2 (sp.map cSp)], .rp [.int .i64 z, .rs 5 (lv.map cLf), .rs 1 (hd.map cS)], .rp [.fn (.func 119) [.rp [.rs 5 (ls.map cLf)]]]])])]), (7, .cells 47 1 [[.sl 25 0 (l ++ [treeD kn d c]).length]] false), (25, .cells 9 1 ((l ++ [treeD kn d c]).map cS) true), (903, .dead)] true) : FC Tryz.prog 149 [.yl 900, .rp (cP b (2 ^ (d + 1)))] [(900, .lp r0 [(18, .fn (.func 149) [.rp (cP b (2 ^ (d + 1)))]), (7, .ptr 7 0 0), (2, .rp [(.fn (.func 73) [.rp [.rs 2 (sp.map cSp)], .rp [.int .i64 z, .rs 5 (lv.map cLf), .rs 1 (hd.map cS)], .rp [.fn (.func 119) [.rp [.rs 5 (ls.map cLf)]]]])])]), (7, .cells 47 1 [[.sl 901 0 (([] : List (List Int))).length]] false), (901, .cells 9 1 ((([] : List (List Int))).map cS) true)] (.tup []) [(900, .lp r0 [(18, .fn (.func 149) [.rp (cP b (2 ^ (d + 1)))]), (7, .ptr 7 0 0), (2, .rp [(.fn (.func 73) [.rp [.rs 2 (sp.map cSp)], .rp [.int .i64 z, .rs 5 (lv.map cLf), .rs 1 (hd.map cS)], .rp [.fn (.func 119) [.rp [.rs 5 (ls.map cLf)]]]])])]), (7, .cells 47 1 [[.sl 903 0 (([] ++ [treeD kn d b] ++ [treeD kn d (b + 2 ^ d)] : List (List Int))).length]] false), (903, .cells 9 1 ((([] ++ [treeD kn d b] ++ [treeD kn d (b + 2 ^ d)] : List (List Int))).map cS) true), (901, .dead)] true := by
  have hpw := pow2 d
  refine fc_run (nt := 21) Tryz.func149 rfl rfl mcOkv149 (Nat.le_of_ble_eq_true rfl) ?_
  delta mcv149
  refine aw_post ?_
  refine aw_seq (aw_reg (rs_fa_r rfl rfl rfl ?_))
  refine rs_ld_r rfl rfl rfl ?_
  refine rs_quow rfl rfl rfl (by decide) (quo2W hpw (by omega)) ?_
  refine rs_mv rfl rfl ?_
  refine rs_nil fun _ => (th_n (aw_seq (aw_weak (F0 := [(0, .yl 900), (1, .rp (cP b (2 ^ (d + 1)))), (3, iv ((2 ^ d : Nat) : Int))]) (H0 := [(900, .lp r0 [(18, .fn (.func 149) [.rp (cP b (2 ^ (d + 1)))]), (7, .ptr 7 0 0), (2, .rp [(.fn (.func 73) [.rp [.rs 2 (sp.map cSp)], .rp [.int .i64 z, .rs 5 (lv.map cLf), .rs 1 (hd.map cS)], .rp [.fn (.func 119) [.rp [.rs 5 (ls.map cLf)]]]])])]), (7, .cells 47 1 [[.sl 903 0 (([] : List (List Int))).length]] false), (903, .cells 9 1 ((([] : List (List Int))).map cS) true), (901, .dead)]) (Weak.trans (F1 := [(0, .yl 900), (1, .rp (cP b (2 ^ (d + 1)))), (3, iv ((2 ^ d : Nat) : Int))]) (H1 := [(900, .lp r0 [(18, .fn (.func 149) [.rp (cP b (2 ^ (d + 1)))]), (7, .ptr 7 0 0), (2, .rp [(.fn (.func 73) [.rp [.rs 2 (sp.map cSp)], .rp [.int .i64 z, .rs 5 (lv.map cLf), .rs 1 (hd.map cS)], .rp [.fn (.func 119) [.rp [.rs 5 (ls.map cLf)]]]])])]), (7, .cells 47 1 [[.sl 901 0 (([] : List (List Int))).length]] false), (901, .cells 9 1 ((([] : List (List Int))).map cS) true)]) (weak_to (.cons rfl sm (.cons rfl sm (.cons rfl sm (.nil)))) (.keep (rfl) rfl (.keep (rfl) rfl (.keep (rfl) rfl (.nil)))) (fun i hi => by simp [keysOf] at hi ⊢; omega)) (Weak.trans (F1 := [(0, .yl 900), (1, .rp (cP b (2 ^ (d + 1)))), (3, iv ((2 ^ d : Nat) : Int))]) (weak_ren_cell (i := 901) (i' := 903) (k := 7) rfl rfl (.cons rfl (.same _) (.cons rfl (.same _) (.cons rfl (.same _) (.nil)))) (by decide) rfl (.sl _ _)) (weak_to (.cons rfl sm (.cons rfl sm (.cons rfl sm (.nil)))) (.keep (rfl) rfl (.keep (rfl) rfl (.keep (rfl) rfl (.keep (rfl) rfl (.nil))))) (fun i hi => by simp [keysOf] at hi ⊢; omega)))) ?_)))
  refine aw_reg (rs_mv rfl rfl ?_)
  refine rs_fa_r rfl rfl rfl ?_
  refine rs_ld_r rfl rfl rfl ?_
  refine rs_mv rfl rfl ?_
  refine rs_build rfl rfl ?_
  refine rs_yield [(900, .lp r0 [(18, .fn (.func 149) [.rp (cP b (2 ^ (d + 1)))]), (7, .ptr 7 0 0), (2, .rp [(.fn (.func 73) [.rp [.rs 2 (sp.map cSp)], .rp [.int .i64 z, .rs 5 (lv.map cLf), .rs 1 (hd.map cS)], .rp [.fn (.func 119) [.rp [.rs 5 (ls.map cLf)]]]])])]), (7, .cells 47 1 [[.sl 903 0 (([] : List (List Int))).length]] false), (903, .cells 9 1 ((([] : List (List Int))).map cS) true)] rfl rfl rfl (hy b [] (by omega) (by simp)) (.cons (hv_same rfl) (.cons (hv_same rfl) (.nil))) (.cons rfl (.cons rfl (.cons rfl (.nil)))) rfl rfl rfl ?_
  refine rs_nil fun _ => (th_n (aw_cond rfl (fun _ => ?_) (fun h => by cases h)))
  refine aw_weak (F0 := [(0, .yl 900), (1, .rp (cP b (2 ^ (d + 1)))), (3, iv ((2 ^ d : Nat) : Int))]) (H0 := [(900, .lp r0 [(18, .fn (.func 149) [.rp (cP b (2 ^ (d + 1)))]), (7, .ptr 7 0 0), (2, .rp [(.fn (.func 73) [.rp [.rs 2 (sp.map cSp)], .rp [.int .i64 z, .rs 5 (lv.map cLf), .rs 1 (hd.map cS)], .rp [.fn (.func 119) [.rp [.rs 5 (ls.map cLf)]]]])])]), (7, .cells 47 1 [[.sl 903 0 (([] ++ [treeD kn d b] : List (List Int))).length]] false), (903, .cells 9 1 ((([] ++ [treeD kn d b] : List (List Int))).map cS) true), (901, .dead)]) (Weak.trans (F1 := [(0, .yl 900), (1, .rp (cP b (2 ^ (d + 1)))), (3, iv ((2 ^ d : Nat) : Int))]) (H1 := [(900, .lp r0 [(18, .fn (.func 149) [.rp (cP b (2 ^ (d + 1)))]), (7, .ptr 7 0 0), (2, .rp [(.fn (.func 73) [.rp [.rs 2 (sp.map cSp)], .rp [.int .i64 z, .rs 5 (lv.map cLf), .rs 1 (hd.map cS)], .rp [.fn (.func 119) [.rp [.rs 5 (ls.map cLf)]]]])])]), (7, .cells 47 1 [[.sl 25 0 (([] ++ [treeD kn d b] : List (List Int))).length]] false), (25, .cells 9 1 ((([] ++ [treeD kn d b] : List (List Int))).map cS) true), (901, .dead)]) (weak_to (.cons rfl sm (.cons rfl sm (.cons rfl sm (.nil)))) (.keep (rfl) rfl (.keep (rfl) rfl (.keep (rfl) rfl (.keep (rfl) rfl (.nil))))) (fun i hi => by simp [keysOf] at hi ⊢; omega)) (Weak.trans (F1 := [(0, .yl 900), (1, .rp (cP b (2 ^ (d + 1)))), (3, iv ((2 ^ d : Nat) : Int))]) (weak_ren_cell (i := 25) (i' := 903) (k := 7) rfl rfl (.cons rfl (.same _) (.cons rfl (.same _) (.cons rfl (.same _) (.nil)))) (by decide) rfl (.sl _ _)) (weak_to (.cons rfl sm (.cons rfl sm (.cons rfl sm (.nil)))) (.keep (rfl) rfl (.keep (rfl) rfl (.keep (rfl) rfl (.keep (rfl) rfl (.nil))))) (fun i hi => by simp [keysOf] at hi ⊢; omega)))) ?_
  refine aw_reg (rs_mv rfl rfl ?_)
  refine rs_fa_r rfl rfl rfl ?_
  refine rs_ld_r rfl rfl rfl ?_
  refine rs_mv rfl rfl ?_
  refine rs_addw (c := ((b + 2 ^ d : Nat) : Int)) rfl rfl rfl (addNW (by omega)) ?_
  refine rs_mv rfl rfl ?_
  refine rs_build rfl rfl ?_
  refine rs_yield [(900, .lp r0 [(18, .fn (.func 149) [.rp (cP b (2 ^ (d + 1)))]), (7, .ptr 7 0 0), (2, .rp [(.fn (.func 73) [.rp [.rs 2 (sp.map cSp)], .rp [.int .i64 z, .rs 5 (lv.map cLf), .rs 1 (hd.map cS)], .rp [.fn (.func 119) [.rp [.rs 5 (ls.map cLf)]]]])])]), (7, .cells 47 1 [[.sl 903 0 (([] ++ [treeD kn d b] : List (List Int))).length]] false), (903, .cells 9 1 ((([] ++ [treeD kn d b] : List (List Int))).map cS) true)] rfl rfl rfl (hy (b + 2 ^ d) ([] ++ [treeD kn d b] : List (List Int)) (by omega) (by simp)) (.cons (hv_same rfl) (.cons (hv_same rfl) (.nil))) (.cons rfl (.cons rfl (.cons rfl (.nil)))) rfl rfl rfl ?_
  refine rs_nil fun _ => ?_
  exact ⟨[], [(900, .lp r0 [(18, .fn (.func 149) [.rp (cP b (2 ^ (d + 1)))]), (7, .ptr 7 0 0), (2, .rp [(.fn (.func 73) [.rp [.rs 2 (sp.map cSp)], .rp [.int .i64 z, .rs 5 (lv.map cLf), .rs 1 (hd.map cS)], .rp [.fn (.func 119) [.rp [.rs 5 (ls.map cLf)]]]])])]), (7, .cells 47 1 [[.sl 903 0 (([] ++ [treeD kn d b] ++ [treeD kn d (b + 2 ^ d)] : List (List Int))).length]] false), (903, .cells 9 1 ((([] ++ [treeD kn d b] ++ [treeD kn d (b + 2 ^ d)] : List (List Int))).map cS) true), (901, .dead)], (Weak.trans (F1 := []) (H1 := [(900, .lp r0 [(18, .fn (.func 149) [.rp (cP b (2 ^ (d + 1)))]), (7, .ptr 7 0 0), (2, .rp [(.fn (.func 73) [.rp [.rs 2 (sp.map cSp)], .rp [.int .i64 z, .rs 5 (lv.map cLf), .rs 1 (hd.map cS)], .rp [.fn (.func 119) [.rp [.rs 5 (ls.map cLf)]]]])])]), (7, .cells 47 1 [[.sl 25 0 (([] ++ [treeD kn d b] ++ [treeD kn d (b + 2 ^ d)] : List (List Int))).length]] false), (25, .cells 9 1 ((([] ++ [treeD kn d b] ++ [treeD kn d (b + 2 ^ d)] : List (List Int))).map cS) true), (901, .dead)]) (weak_to (.nil) (.keep (rfl) rfl (.keep (rfl) rfl (.keep (rfl) rfl (.keep (rfl) rfl (.nil))))) (fun i hi => by simp [keysOf] at hi ⊢; omega)) (Weak.trans (F1 := []) (weak_ren_cell (i := 25) (i' := 903) (k := 7) rfl rfl (.nil) (by decide) rfl (.sl _ _)) (weak_to (.nil) (.keep (rfl) rfl (.keep (rfl) rfl (.keep (rfl) rfl (.keep (rfl) rfl (.nil))))) (fun i hi => by simp [keysOf] at hi ⊢; omega)))), ret_own_e (.inl rfl) rfl sm (.keep (rfl) rfl (.keep (rfl) rfl (.keep (rfl) rfl (.keep (rfl) rfl (.nil))))) (.cons rfl rfl rfl (.cons rfl rfl rfl (.dead rfl rfl (.nil))))⟩
theorem vc69_02 (sp : List (Nat × Nat)) (z : Int) (lv : List Lf) (hd : List (List Int)) (ls : List Lf) (kn : Nat → Nat → Option (List Int)) (hkn : KnOK kn) (hkf : ∀ b m, b + m ≤ 64 → FC Tryz.prog 73 [.agg (cP b m), .rp [.rs 2 (sp.map cSp)], .rp [.int .i64 z, .rs 5 (lv.map cLf), .rs 1 (hd.map cS)], .rp [.fn (.func 119) [.rp [.rs 5 (ls.map cLf)]]]] [] (.tup [.str (strN ((kn (b) (m)).getD [])), .bool (kn (b) (m)).isSome]) [] false) (b : Nat) (hb : b + 2 ^ 0 ≤ 64) : FC Tryz.prog 69 [(.fn (.func 73) [.rp [.rs 2 (sp.map cSp)], .rp [.int .i64 z, .rs 5 (lv.map cLf), .rs 1 (hd.map cS)], .rp [.fn (.func 119) [.rp [.rs 5 (ls.map cLf)]]]]), .agg (cP b (2 ^ 0))] [] (.str (strN (treeD kn 0 b))) [] false := by
  have hs := hkn.one b
  refine fc_run (nt := 33) Tryz.func69 rfl rfl mcOkv69 (Nat.le_of_ble_eq_true rfl) ?_
  delta mcv69
  refine aw_seq (aw_reg (rs_box rfl rfl rfl rfl rfl rfl ?_))
  refine rs_box rfl rfl rfl rfl rfl rfl ?_
  refine rs_mv rfl rfl ?_
  refine rs_nil fun _ => (th_n (aw_seq (aw_seq (aw_reg (rs_ld_p rfl rfl rfl rfl rfl ?_)))))
  refine rs_ld_pa rfl rfl rfl rfl (Nat.le_of_ble_eq_true rfl) rfl ?_
  refine rs_callvo [] rfl rfl (by kernel_rfl) rfl (fc_up (hkf b (2 ^ (0)) (by omega))) (.cons (hv_same rfl) (.cons (hv_same rfl) (.cons (hv_same rfl) (.cons (hv_same rfl) (.nil))))) .nil rfl rfl rfl ?_
  refine rs_mv rfl rfl ?_
  refine rs_ext rfl rfl rfl ?_
  refine rs_ext rfl rfl rfl ?_
  rw [show kn b (2 ^ 0) = kn b 1 from rfl, hs]
  refine rs_mv rfl rfl ?_
  refine rs_mv rfl rfl ?_
  refine rs_nil fun _ => (th_n (aw_seq (aw_reg (rs_mv rfl rfl ?_))))
  refine rs_nil fun _ => (th_n (aw_cond rfl (fun _ => ?_) (fun h => by cases h)))
  refine aw_seq (aw_reg (rs_mv rfl rfl ?_))
  refine rs_mv rfl rfl ?_
  refine rs_nil fun _ => (th_n (aw_ret (th_r ?_)))
  exact ret_pure rfl rfl rfl (.inr rfl)
theorem vc69_s2 (sp : List (Nat × Nat)) (z : Int) (lv : List Lf) (hd : List (List Int)) (ls : List Lf) (kn : Nat → Nat → Option (List Int)) (hkn : KnOK kn) (hkf : ∀ b m, b + m ≤ 64 → FC Tryz.prog 73 [.agg (cP b m), .rp [.rs 2 (sp.map cSp)], .rp [.int .i64 z, .rs 5 (lv.map cLf), .rs 1 (hd.map cS)], .rp [.fn (.func 119) [.rp [.rs 5 (ls.map cLf)]]]] [] (.tup [.str (strN ((kn (b) (m)).getD [])), .bool (kn (b) (m)).isSome]) [] false) (d b : Nat) (hb : b + 2 ^ (d + 1) ≤ 64) (ih : ∀ c, c + 2 ^ d ≤ 64 → FC Tryz.prog 69 [(.fn (.func 73) [.rp [.rs 2 (sp.map cSp)], .rp [.int .i64 z, .rs 5 (lv.map cLf), .rs 1 (hd.map cS)], .rp [.fn (.func 119) [.rp [.rs 5 (ls.map cLf)]]]]), .agg (cP c (2 ^ d))] [] (.str (strN (treeD kn d c))) [] false) : FC Tryz.prog 69 [(.fn (.func 73) [.rp [.rs 2 (sp.map cSp)], .rp [.int .i64 z, .rs 5 (lv.map cLf), .rs 1 (hd.map cS)], .rp [.fn (.func 119) [.rp [.rs 5 (ls.map cLf)]]]]), .agg (cP b (2 ^ (d + 1)))] [] (.str (strN (treeD kn (d + 1) b))) [] false := by
  have h8a := hkn.tree d b
  have h8b := hkn.tree d (b + 2 ^ d)
  refine fc_run (nt := 33) Tryz.func69 rfl rfl mcOkv69 (Nat.le_of_ble_eq_true rfl) ?_
  delta mcv69
  refine aw_seq (aw_reg (rs_box rfl rfl rfl rfl rfl rfl ?_))
  refine rs_box rfl rfl rfl rfl rfl rfl ?_
  refine rs_mv rfl rfl ?_
  refine rs_nil fun _ => (th_n (aw_seq (aw_seq (aw_reg (rs_ld_p rfl rfl rfl rfl rfl ?_)))))
  refine rs_ld_pa rfl rfl rfl rfl (Nat.le_of_ble_eq_true rfl) rfl ?_
  refine rs_callvo [] rfl rfl (by kernel_rfl) rfl (fc_up (hkf b (2 ^ (d + 1)) (by omega))) (.cons (hv_same rfl) (.cons (hv_same rfl) (.cons (hv_same rfl) (.cons (hv_same rfl) (.nil))))) .nil rfl rfl rfl ?_
  refine rs_mv rfl rfl ?_
  refine rs_ext rfl rfl rfl ?_
  refine rs_ext rfl rfl rfl ?_
  cases h14 : (kn b (2 ^ (d + 1))).isSome
  · skip
    refine rs_mv rfl rfl ?_
    refine rs_mv rfl rfl ?_
    refine rs_nil fun _ => (th_n (aw_seq (aw_reg (rs_mv rfl rfl ?_))))
    refine rs_nil fun _ => (th_n (aw_cond rfl (fun h => by cases h) (fun _ => ?_)))
    refine aw_skip (th_n (aw_seq (aw_reg (rs_alloc rfl rfl rfl ?_))))
    refine rs_nil fun _ => (th_n (aw_seq (aw_seq (aw_reg (rs_ld_pa rfl rfl rfl rfl (Nat.le_of_ble_eq_true rfl) rfl ?_)))))
    refine rs_callo [] rfl rfl (vc118 (b, 2 ^ (d + 1))) (.cons (hv_same rfl) .nil) .nil rfl rfl rfl ?_
    refine rs_nil fun _ => (th_n (aw_block (aw_weak (F0 := [(18, .fn (.func 149) [.rp (cP b (2 ^ (d + 1)))]), (7, .ptr 7 0 0), (2, .rp [(.fn (.func 73) [.rp [.rs 2 (sp.map cSp)], .rp [.int .i64 z, .rs 5 (lv.map cLf), .rs 1 (hd.map cS)], .rp [.fn (.func 119) [.rp [.rs 5 (ls.map cLf)]]]])])]) (H0 := [(7, .cells 47 1 [[.sl 901 0 (([] : List (List Int))).length]] false), (901, .cells 9 1 ((([] : List (List Int))).map cS) true)]) (Weak.trans (F1 := [(18, .fn (.func 149) [.rp (cP b (2 ^ (d + 1)))]), (7, .ptr 7 0 0), (2, .rp [(.fn (.func 73) [.rp [.rs 2 (sp.map cSp)], .rp [.int .i64 z, .rs 5 (lv.map cLf), .rs 1 (hd.map cS)], .rp [.fn (.func 119) [.rp [.rs 5 (ls.map cLf)]]]])])]) (H1 := [(7, .cells 47 1 [[.nils]] true)]) (weak_to (.cons rfl sm (.cons rfl sm (.cons rfl (rc_pfrz rfl rfl (.inl rfl)) (.nil)))) (.keep (rfl) rfl (.nil)) (fun i h => by cases h)) (Weak.trans (F1 := [(18, .fn (.func 149) [.rp (cP b (2 ^ (d + 1)))]), (7, .ptr 7 0 0), (2, .rp [(.fn (.func 73) [.rp [.rs 2 (sp.map cSp)], .rp [.int .i64 z, .rs 5 (lv.map cLf), .rs 1 (hd.map cS)], .rp [.fn (.func 119) [.rp [.rs 5 (ls.map cLf)]]]])])]) (weak_seed (i := 901) (k := 7) (e := 47) (z := 1) (e2 := 9) (z2 := 1) (fl := true) (fl2 := true) rfl rfl) (weak_to (.cons rfl sm (.cons rfl sm (.cons rfl sm (.nil)))) (.keep (rfl) rfl (.keep (rfl) rfl (.nil))) (fun i h => by cases h)))) ?_)))
    refine aw_rfunc 900 [(7, .cells 47 1 [[.sl 901 0 (([] : List (List Int))).length]] false), (901, .cells 9 1 ((([] : List (List Int))).map cS) true)] [(7, .cells 47 1 [[.sl 903 0 (([] ++ [treeD kn d b] ++ [treeD kn d (b + 2 ^ d)] : List (List Int))).length]] false), (903, .cells 9 1 ((([] ++ [treeD kn d b] ++ [treeD kn d (b + 2 ^ d)] : List (List Int))).map cS) true), (901, .dead)] (.inl ⟨rfl, rfl⟩) rfl (by kernel_rfl) rfl rfl rfl (.cons rfl (.cons rfl (.nil))) rfl rfl rfl rfl (fun r0 hrec => ⟨r0, (by rw [hrec.state]; intro h; cases h), hrec.pending, vc149d2 sp z lv hd ls kn d b hb r0 (fun c l hc hl => y69_2 sp z lv hd ls kn d b c l hc hl ih r0 hrec)⟩) ?_
    refine in_n (th_n (aw_seq (aw_draw hmix ?_)))
    refine rs_ld_p rfl rfl rfl rfl rfl ?_
    refine rs_ix_s rfl rfl rfl rfl (by decide) (by simp) ?_
    refine rs_ld_p rfl rfl rfl rfl rfl ?_
    refine rs_ld_p rfl rfl rfl rfl rfl ?_
    refine rs_ix_s rfl rfl rfl rfl (by decide) (by simp) ?_
    refine rs_ld_p rfl rfl rfl rfl rfl ?_
    refine rs_calln [] rfl rfl (vc43 (treeD kn d b) (treeD kn d (b + 2 ^ d)) h8a h8b) (.cons (hv_same rfl) (.cons (hv_same rfl) (.nil))) rfl ?_
    refine rs_mv rfl rfl ?_
    refine rs_nil ⟨by kernel_rfl, fun _ => ?_⟩
    refine th_n (aw_ret ?_)
    rw [treeD_f h14]
    exact ret_pure rfl rfl rfl (.inr rfl)
  · skip
    refine rs_mv rfl rfl ?_
    refine rs_mv rfl rfl ?_
    refine rs_nil fun _ => (th_n (aw_seq (aw_reg (rs_mv rfl rfl ?_))))
    refine rs_nil fun _ => (th_n (aw_cond rfl (fun _ => ?_) (fun h => by cases h)))
    refine aw_seq (aw_reg (rs_mv rfl rfl ?_))
    refine rs_mv rfl rfl ?_
    refine rs_nil fun _ => (th_n (aw_ret (th_r ?_)))
    rw [treeD_t h14]
    exact ret_pure rfl rfl rfl (.inr rfl)
theorem vc69_2 (sp : List (Nat × Nat)) (z : Int) (lv : List Lf) (hd : List (List Int)) (ls : List Lf) (kn : Nat → Nat → Option (List Int)) (hkn : KnOK kn) (hkf : ∀ b m, b + m ≤ 64 → FC Tryz.prog 73 [.agg (cP b m), .rp [.rs 2 (sp.map cSp)], .rp [.int .i64 z, .rs 5 (lv.map cLf), .rs 1 (hd.map cS)], .rp [.fn (.func 119) [.rp [.rs 5 (ls.map cLf)]]]] [] (.tup [.str (strN ((kn (b) (m)).getD [])), .bool (kn (b) (m)).isSome]) [] false) : ∀ (d b : Nat), b + 2 ^ d ≤ 64 → FC Tryz.prog 69 [(.fn (.func 73) [.rp [.rs 2 (sp.map cSp)], .rp [.int .i64 z, .rs 5 (lv.map cLf), .rs 1 (hd.map cS)], .rp [.fn (.func 119) [.rp [.rs 5 (ls.map cLf)]]]]), .agg (cP b (2 ^ d))] [] (.str (strN (treeD kn d b))) [] false
  | 0, b, hb => vc69_02 sp z lv hd ls kn hkn hkf b hb
  | d + 1, b, hb => vc69_s2 sp z lv hd ls kn hkn hkf d b hb fun c hc => vc69_2 sp z lv hd ls kn hkn hkf d c hc
end Go.Proofs.YthfhaoogcpfboaaGreat

/-! Walks: VG. -/
namespace Go.Proofs.YthfhaoogcpfboaaGreat
open Go.RowKit
set_option maxRecDepth 100000
set_option linter.unusedVariables false
theorem root_some {z : Int} {lv : List Lf} {hd : List (List Int)} {sp : List (Nat × Nat)} (h : fmS z lv hd = some sp) : rootOfS z lv hd = some (treeD (knR sp hd (fillL z.toNat lv)) (lg z.toNat) 0) := by unfold rootOfS; rw [h]; rfl
theorem root_none {z : Int} {lv : List Lf} {hd : List (List Int)} (h : (fmS z lv hd).isSome = false) : rootOfS z lv hd = none := by
  unfold rootOfS
  cases hf : fmS z lv hd with
  | none => rfl
  | some x => rw [hf] at h; cases h
structure ShOK (lv : List Lf) (hd : List (List Int)) : Prop where
  nl : lv.length ≤ 64
  nh : hd.length ≤ 64
  ok : ∀ x ∈ lv, x.OK
  b : ∀ d ∈ hd, B8 d ∧ d.length ≤ LIM
def mcv27 : MC := (.seq (.reg [oN 1 (.box 55 3 (.t 0)) [], oN 2 (.mv (.c (.str (strN [])))) [], oN 3 (.mv (.c (.bool false))) [1]] false) (.seq (.reg [oN 12 (.ld true 3 (.t 1)) [], oN 13 (.call 72 [(.t 12)]) [0], oN 11 (.mv (.t 13)) [1], oN 14 (.ext (.t 11) 0) [2], oN 15 (.ext (.t 11) 1) [2], oN 4 (.alloc 107 1 [.nils]) [], ⟨none, (.st 1 (.t 4) (.t 14)), none, [5, 3, 1, 0, 1, 2, 3, 5]⟩, oN 5 (.mv (.t 15)) [4, 6, 0, 1, 2, 3, 4, 5, 6]] false) (.seq (.seq (.reg [oN 16 (.mv (.t 5)) [], oN 17 (.un .not (.t 16)) [0]] false) (.cond (.t 17) (.seq (.reg [oN 2 (.mv (.c (.str (strN [])))) [], oN 3 (.mv (.c (.bool false))) [0, 0]] false) .ret) .skip)) (.seq (.reg [oN 18 (.fa 0 (.t 1)) [], oN 19 (.ld false 1 (.t 18)) [0], oN 20 (.mksl 51 5 40 [(.int .i64 0), (.int .i64 0), (.bool false), (.bool false), (.str (strN []))] (.t 19) (.t 19)) [1, 1], oN 6 (.mv (.t 20)) [2, 0, 1, 2]] false) (.seq (.seq (.reg [oN 21 (.fa 1 (.t 1)) [], oN 22 (.ld false 1 (.t 21)) [0], oN 23 (.len (.t 22)) [1], oN 24 (.mv (.c (.int .i64 0))) []] false) (.block 0 (.loop (.seq (.reg [oN 25 (.bin .lss (.t 24) (.t 23)) []] false) (.seq (.cond (.t 25) .skip (.exit 0)) (.seq (.block 1 (.seq (.reg [oN 26 (.ixsl 5 (.t 22) (.t 24)) [], oN 27 (.ld true 5 (.t 26)) [0], oN 8 (.alloc 51 5 [(.int .i64 0), (.int .i64 0), (.bool false), (.bool false), (.str (strN []))]) [], ⟨none, (.st 5 (.t 8) (.t 27)), none, [2, 1, 0, 1, 2]⟩] false) (.reg [oN 28 (.mv (.t 6)) [], oN 29 (.fa 0 (.t 8)) [], oN 30 (.ld false 1 (.t 29)) [1], oN 31 (.ld true 5 (.t 8)) [], oN 32 (.ixsl 5 (.t 28) (.t 30)) [0, 2, 0, 1, 2, 3], ⟨none, (.st 5 (.t 32) (.t 31)), none, [4, 3, 0, 1, 2, 3]⟩] false))) (.reg [oN 33 (.bin .add (.t 24) (.c (.int .i64 1))) [], oN 24 (.mv (.t 33)) [0]] false))))))) (.seq (.reg [oN 34 (.mv (.t 6)) [], oN 35 (.call 68 [(.t 34)]) [0], oN 9 (.alloc 112 1 [.nilf]) [], ⟨none, (.st 1 (.t 9) (.t 35)), none, [2, 1, 1, 0, 1, 2]⟩] false) (.seq (.reg [oN 36 (.mkfn (.func 73) [(.t 4), (.t 1), (.t 9)]) [], oN 10 (.mv (.t 36)) [0, 0]] false) (.seq (.reg [oN 37 (.mv (.t 10)) [], oN 38 (.fa 0 (.t 1)) [], oN 39 (.ld false 1 (.t 38)) [1], oN 40 (.call 75 [(.t 39)]) [2], oN 41 (.call 69 [(.t 37), (.t 40)]) [0, 3, 3], oN 2 (.mv (.t 41)) [4, 4, 0, 1, 2, 3, 4], oN 3 (.mv (.c (.bool true))) [5, 0, 1, 2, 3, 4, 5]] false) .ret))))))))
theorem mcOkv27 : (match Tryz.f27.body with | some c => compC Tryz.prog 42 c | none => none) = some mcv27 := by kernel_rfl
theorem vc27 (z : Int) (lv : List Lf) (hd : List (List Int)) (h : ShOK lv hd) : FC Tryz.prog 27 [.agg [.int .i64 z, .rs 5 (lv.map cLf), .rs 1 (hd.map cS)]] [] (.tup [.str (strN ((rootOfS z lv hd).getD [])), .bool (rootOfS z lv hd).isSome]) [] false := by
  have hnl := h.nl
  refine fc_run (nt := 42) Tryz.func27 rfl rfl mcOkv27 (Nat.le_of_ble_eq_true rfl) ?_
  delta mcv27
  refine aw_seq (aw_reg (rs_box rfl rfl rfl rfl rfl rfl ?_))
  refine rs_mv rfl rfl ?_
  refine rs_mv rfl rfl ?_
  refine rs_nil fun _ => (th_n (aw_seq (aw_reg (rs_ld_pa rfl rfl rfl rfl (Nat.le_of_ble_eq_true rfl) rfl ?_))))
  refine rs_callo [] rfl rfl (vc72 z lv hd h.nl h.nh) (.cons (hv_same rfl) .nil) .nil rfl rfl rfl ?_
  refine rs_mv rfl rfl ?_
  refine rs_ext rfl rfl rfl ?_
  refine rs_ext rfl rfl rfl ?_
  cases h15 : (fmS z lv hd).isSome
  · skip
    refine rs_alloc rfl rfl rfl ?_
    refine rs_st rfl rfl rfl rfl rfl rfl rfl (Nat.le_of_ble_eq_true rfl) rfl rfl ?_
    refine rs_mv rfl rfl ?_
    refine rs_nil fun _ => (th_n (aw_seq (aw_seq (aw_reg (rs_mv rfl rfl ?_)))))
    refine rs_not rfl rfl ?_
    refine rs_nil fun _ => (th_n (aw_cond rfl (fun _ => ?_) (fun h => by cases h)))
    refine aw_seq (aw_reg (rs_mv rfl rfl ?_))
    refine rs_mv rfl rfl ?_
    refine rs_nil fun _ => (th_n (aw_ret (th_r ?_)))
    rw [root_none h15]
    exact ret_pure rfl rfl rfl (.inr rfl)
  · skip
    refine rs_alloc rfl rfl rfl ?_
    refine rs_st rfl rfl rfl rfl rfl rfl rfl (Nat.le_of_ble_eq_true rfl) rfl rfl ?_
    refine rs_mv rfl rfl ?_
    refine rs_nil fun _ => (th_n (aw_seq (aw_seq (aw_reg (rs_mv rfl rfl ?_)))))
    refine rs_not rfl rfl ?_
    refine rs_nil fun _ => (th_n (aw_cond rfl (fun h => by cases h) (fun _ => ?_)))
    refine aw_skip (th_n (aw_seq ?_))
    obtain ⟨sp, hsp⟩ := Option.isSome_iff_exists.1 h15
    rw [hsp]
    obtain ⟨hz, hinc, hspd, hsl, h8⟩ := fm_parts hsp
    have hzn : ((z.toNat : Nat) : Int) = z := by omega
    refine aw_reg (rs_fa_p rfl rfl ?_)
    refine rs_ld_p rfl rfl rfl rfl rfl ?_
    refine rs_mksl (n := z) rfl rfl rfl rfl rfl (by omega) (by omega) (by omega) ?_
    refine rs_mv rfl rfl ?_
    refine rs_nil fun _ => (th_n (aw_seq (aw_seq (aw_reg (rs_fa_p rfl rfl ?_)))))
    refine rs_ld_p rfl rfl rfl rfl rfl ?_
    refine rs_len_m rfl rfl ?_
    refine rs_mv rfl rfl ?_
    refine rs_nil fun _ => (th_n (aw_block ?_))
    refine aw_fam (α := Nat) (fun k => lv.length - k) (fun k => [(1, .ptr 1 0 0), (4, .ptr 4 0 0), (6, .sl 20 0 z.toNat), (22, .rs 5 (lv.map cLf)), (23, iv (lv.length : Int)), (24, iv (((k) : Nat) : Int))]) (fun k => [(1, .cells 55 3 [[.int .i64 z, .rs 5 (lv.map cLf), .rs 1 (hd.map cS)]] true), (4, .cells 107 1 [[.rs 2 (sp.map cSp)]] true), (20, .cells 51 5 ((fillL z.toNat (lv.take (k))).map cLf) true)]) (fun k => k ≤ lv.length) 0 (by omega)
      (weak_to (.cons rfl sm (.cons rfl sm (.cons rfl sm (.cons rfl sm (.cons rfl sm (.cons rfl sm (.nil))))))) (.keep (rfl) rfl (.keep (rfl) rfl (.keep (by rw [List.take_zero, ← fill_0]; rfl) rfl (.nil)))) (fun i h => by cases h)) ?_
    intro k hk
    refine aw_seq (aw_reg (rs_lss rfl rfl rfl ?_))
    refine rs_nil fun _ => (th_n (aw_seq (aw_cond rfl (fun h25 => ?_) (fun h25 => ?_))))
    · replace h25 := of_decide_eq_true h25
      refine aw_skip (th_n (aw_seq (aw_block (aw_seq (aw_reg ?_)))))
      obtain ⟨x, hxk, hxm⟩ := at_some (L := lv) (k := k) (by omega)
      have hx0 := incF_bd hinc x.ix (List.mem_map_of_mem hxm)
      refine rs_ix_g (f := cLf) (y := x) rfl rfl rfl (by omega) hxk ?_
      refine rs_ld_ra (cs := cLf x) rfl rfl (Nat.le_of_ble_eq_true rfl) rfl ?_
      refine rs_alloc rfl rfl rfl ?_
      refine rs_st rfl rfl rfl rfl rfl rfl rfl (Nat.le_of_ble_eq_true rfl) rfl rfl ?_
      refine rs_nil fun _ => (th_n (aw_reg (rs_mv rfl rfl ?_)))
      refine rs_fa_p rfl rfl ?_
      refine rs_ld_p rfl rfl rfl rfl rfl ?_
      refine rs_ld_pa rfl rfl rfl rfl (Nat.le_of_ble_eq_true rfl) rfl ?_
      refine rs_ix_si rfl rfl rfl rfl hx0.1 (by omega) ?_
      refine rs_st_m (f := cLf) (xs := fillL z.toNat (lv.take k)) (t := x.ix.toNat) (v := x) (fl' := true) rfl rfl rfl rfl (by rw [fill_len]; omega) rfl rfl (Nat.le_of_ble_eq_true rfl) rfl rfl ?_
      refine rs_nil fun _ => (in_n (th_n (aw_reg (rs_add rfl rfl rfl (by omega) ?_))))
      refine rs_mv rfl rfl ?_
      refine rs_nil fun _ => (th_n ?_)
      exact ⟨k + 1, by omega, by omega, weak_to (.cons rfl sm (.cons rfl sm (.cons rfl sm (.cons rfl sm (.cons rfl sm (.cons rfl sm (.nil))))))) (.keep (rfl) rfl (.keep (rfl) rfl (.keep (by rw [fill_succ hxk]; rfl) rfl (.nil)))) (fun i h => by cases h)⟩
    · replace h25 := of_decide_eq_false h25
      refine aw_exit ?_
      refine th_e ?_
      refine th_e ?_
      refine in_hit ?_
      refine th_n (aw_seq ?_)
      obtain rfl : k = lv.length := by omega
      rw [List.take_of_length_le (Nat.le_refl _)]
      refine aw_weak (F0 := [(1, .ptr 1 0 0), (4, .ptr 4 0 0), (6, .rs 5 ((fillL z.toNat lv).map cLf))]) (H0 := [(1, .cells 55 3 [[.int .i64 z, .rs 5 (lv.map cLf), .rs 1 (hd.map cS)]] true), (4, .cells 107 1 [[.rs 2 (sp.map cSp)]] true)]) (weak_to (.cons rfl sm (.cons rfl sm (.cons rfl (rc_frz (f := cLf) (xs := fillL z.toNat lv) rfl rfl (fill_len _ _) (fun _ => rfl)) (.nil)))) (.keep (rfl) rfl (.keep (rfl) rfl (.nil))) fun i h => by cases h) ?_
      refine aw_reg (rs_mv rfl rfl ?_)
      refine rs_callo [] rfl rfl (vc68 (fillL z.toNat lv)) (.cons (hv_same rfl) .nil) .nil rfl rfl rfl ?_
      refine rs_alloc rfl rfl rfl ?_
      refine rs_st rfl rfl rfl rfl rfl rfl rfl (Nat.le_of_ble_eq_true rfl) rfl rfl ?_
      refine rs_nil fun _ => (th_n (aw_seq (aw_weak (F0 := [(4, .rp [.rs 2 (sp.map cSp)]), (1, .rp [.int .i64 z, .rs 5 (lv.map cLf), .rs 1 (hd.map cS)]), (9, .rp [(.fn (.func 119) [.rp [.rs 5 ((fillL z.toNat lv).map cLf)]])])]) (H0 := []) (weak_to (.cons rfl (rc_pfrz rfl rfl (.inl rfl)) (.cons rfl (rc_pfrz rfl rfl (.inl rfl)) (.cons rfl (rc_pfrz rfl rfl (.inl rfl)) (.nil)))) (.nil) (fun i h => by cases h)) ?_)))
      refine aw_reg (rs_mkfn rfl rfl ?_)
      refine rs_mv rfl rfl ?_
      refine rs_nil fun _ => (th_n (aw_seq (aw_reg (rs_mv rfl rfl ?_))))
      refine rs_fa_r rfl rfl rfl ?_
      refine rs_ld_r rfl rfl rfl ?_
      have hlg := lg16 (n := z.toNat) (by omega)
      refine rs_calln [] rfl rfl (vc75 z.toNat (by omega)) (.cons (hv_int hzn.symm) (.nil)) rfl ?_
      refine rs_calln [] rfl rfl (vc69_2 sp z lv hd (fillL z.toNat lv) (knR sp hd (fillL z.toNat lv)) (knR_ok (fillL z.toNat lv) h.b hsl) (fun b m _ => vc73 sp z lv hd (fillL z.toNat lv) (fill_ok (by omega) h.ok) (by have := h.nh; omega) hsl b m) (lg z.toNat) 0 (by omega)) (.cons (hv_same rfl) (.cons (hv_same rfl) (.nil))) rfl ?_
      refine rs_mv rfl rfl ?_
      refine rs_mv rfl rfl ?_
      refine rs_nil fun _ => (th_n (aw_ret ?_))
      rw [root_some hsp]
      exact ret_pure rfl rfl rfl (.inr rfl)
end Go.Proofs.YthfhaoogcpfboaaGreat

/-! Walks: VH. -/
namespace Go.Proofs.YthfhaoogcpfboaaGreat
open Go.RowKit
set_option maxRecDepth 100000
set_option linter.unusedVariables false
theorem eq_hit {α : Type} {a b : List α} {k : Nat} {x y : α} (hx : a[k]? = some x) (hy : b[k]? = some y) (h : x ≠ y) : a ≠ b := fun e => h (by
  rw [e, hy] at hx
  injection hx with hx
  exact hx.symm)
theorem eq_end {α : Type} {a b : List α} {k : Nat} (h : a.take k = b.take k) (ha : a.length ≤ k) (hb : b.length ≤ k) : a = b := by
  rwa [List.take_of_length_le ha, List.take_of_length_le hb] at h
theorem eq_step {α : Type} {a b : List α} {k : Nat} {x y : α} (h : a.take k = b.take k) (hx : a[k]? = some x) (hy : b[k]? = some y) (e : x = y) : a.take (k + 1) = b.take (k + 1) := by
  rw [take_succ_at hx, take_succ_at hy, h, e]
def allZ (p : Lf → Lf → Bool) : List Lf → List Lf → Bool
  | x :: l, y :: m => p x y && allZ p l m
  | _, _ => true
theorem allZ_at {p : Lf → Lf → Bool} {l m : List Lf} {k : Nat} {x y : Lf} (hx : l[k]? = some x) (hy : m[k]? = some y) : allZ p (l.drop k) (m.drop k) = (p x y && allZ p (l.drop (k + 1)) (m.drop (k + 1))) := by
  obtain ⟨h1, e1⟩ := List.getElem?_eq_some_iff.1 hx
  obtain ⟨h2, e2⟩ := List.getElem?_eq_some_iff.1 hy
  rw [List.drop_eq_getElem_cons h1, List.drop_eq_getElem_cons h2, e1, e2]; rfl
theorem allZ_end {p : Lf → Lf → Bool} {l m : List Lf} {k : Nat} (h : l.length ≤ k) : allZ p (l.drop k) (m.drop k) = true := by rw [List.drop_eq_nil_of_le h]; rfl
def sameWS (x y : Lf) : Bool := decide (x.want = y.want) && decide (x.salt = y.salt)
def keepB (x y : Lf) : Bool := !((x.sure && !y.sure) || (x.touched && !y.touched))
def changeS (z : Int) (lv : List Lf) (hd : List (List Int)) (z2 : Int) (lv2 : List Lf) (hd2 : List (List Int)) : Int :=
  if ((fmS z lv hd).isSome && (fmS z2 lv2 hd2).isSome) = false then 4 else if (decide (z = z2) && decide (hd = hd2) && decide (ixsF lv = ixsF lv2)) = false then 54 else if allZ sameWS lv lv2 = false then 1 else if allZ keepB lv lv2 = false then 7 else 0
section
variable {z z2 : Int} {lv lv2 : List Lf} {hd hd2 : List (List Int)}
theorem ch_1 (h : ((fmS z lv hd).isSome && (fmS z2 lv2 hd2).isSome) = false) : changeS z lv hd z2 lv2 hd2 = 4 := if_pos h
theorem ch_2 (h : ((fmS z lv hd).isSome && (fmS z2 lv2 hd2).isSome) = true) (h2 : (decide (z = z2) && decide (hd = hd2) && decide (ixsF lv = ixsF lv2)) = false) : changeS z lv hd z2 lv2 hd2 = 54 := by unfold changeS; rw [if_neg (by rw [h]; decide), if_pos h2]
theorem ch_3 (h : ((fmS z lv hd).isSome && (fmS z2 lv2 hd2).isSome) = true) (h2 : (decide (z = z2) && decide (hd = hd2) && decide (ixsF lv = ixsF lv2)) = true) (h3 : allZ sameWS lv lv2 = false) : changeS z lv hd z2 lv2 hd2 = 1 := by unfold changeS; rw [if_neg (by rw [h]; decide), if_neg (by rw [h2]; decide), if_pos h3]
theorem ch_4 (h : ((fmS z lv hd).isSome && (fmS z2 lv2 hd2).isSome) = true) (h2 : (decide (z = z2) && decide (hd = hd2) && decide (ixsF lv = ixsF lv2)) = true) (h3 : allZ sameWS lv lv2 = true) (h4 : allZ keepB lv lv2 = false) : changeS z lv hd z2 lv2 hd2 = 7 := by unfold changeS; rw [if_neg (by rw [h]; decide), if_neg (by rw [h2]; decide), if_neg (by rw [h3]; decide), if_pos h4]
theorem ch_5 (h : ((fmS z lv hd).isSome && (fmS z2 lv2 hd2).isSome) = true) (h2 : (decide (z = z2) && decide (hd = hd2) && decide (ixsF lv = ixsF lv2)) = true) (h3 : allZ sameWS lv lv2 = true) (h4 : allZ keepB lv lv2 = true) : changeS z lv hd z2 lv2 hd2 = 0 := by unfold changeS; rw [if_neg (by rw [h]; decide), if_neg (by rw [h2]; decide), if_neg (by rw [h3]; decide), if_neg (by rw [h4]; decide)]
end
def mcv79 : MC := (.seq (.reg [oN 4 (.mv (.c (.bool false))) []] false) (.seq (.seq (.reg [oN 6 (.mv (.t 0)) [], oN 7 (.len (.t 6)) [0], oN 8 (.mv (.t 1)) [], oN 9 (.len (.t 8)) [2], oN 10 (.bin .neq (.t 7) (.t 9)) [1, 3]] false) (.cond (.t 10) (.seq (.reg [oN 4 (.mv (.c (.bool false))) []] false) .ret) .skip)) (.seq (.seq (.reg [oN 11 (.mv (.t 0)) [], oN 12 (.len (.t 11)) [0], oN 13 (.mv (.c (.int .i64 0))) []] false) (.block 0 (.loop (.seq (.reg [oN 14 (.bin .lss (.t 13) (.t 12)) []] false) (.seq (.cond (.t 14) .skip (.exit 0)) (.seq (.block 1 (.seq (.reg [oN 15 (.mv (.t 13)) [], oN 5 (.mv (.t 15)) [0, 0]] false) (.seq (.reg [oN 16 (.mv (.t 0)) [], oN 17 (.mv (.t 5)) [], oN 18 (.ixsl 1 (.t 16) (.t 17)) [0, 1], oN 19 (.ld false 1 (.t 18)) [2], oN 20 (.mv (.t 1)) [], oN 21 (.mv (.t 5)) [], oN 22 (.ixsl 1 (.t 20) (.t 21)) [4, 5], oN 23 (.ld false 1 (.t 22)) [6], oN 24 (.bin .neq (.t 19) (.t 23)) [3, 7]] true) (.cond (.t 24) (.seq (.reg [oN 4 (.mv (.c (.bool false))) []] false) .ret) .skip)))) (.reg [oN 25 (.bin .add (.t 13) (.c (.int .i64 1))) [], oN 13 (.mv (.t 25)) [0]] false))))))) (.seq (.reg [oN 4 (.mv (.c (.bool true))) []] false) .ret))))
theorem mcOkv79 : (match Tryz.f79.body with | some c => compC Tryz.prog 26 c | none => none) = some mcv79 := by kernel_rfl
theorem vc79 (a b : List Int)  (han : a.length ≤ 4611686018427387904) : FC Tryz.prog 79 [.rs 1 (a.map civ), .rs 1 (b.map civ)] [] (.bool (decide (a = b))) [] false := by
  refine fc_run (nt := 26) Tryz.func79 rfl rfl mcOkv79 (Nat.le_of_ble_eq_true rfl) ?_
  delta mcv79
  refine aw_seq (aw_reg (rs_mv rfl rfl ?_))
  refine rs_nil fun _ => (th_n (aw_seq (aw_seq (aw_reg (rs_mv rfl rfl ?_)))))
  refine rs_len_m rfl rfl ?_
  refine rs_mv rfl rfl ?_
  refine rs_len_m rfl rfl ?_
  refine rs_neq rfl rfl rfl ?_
  refine rs_nil fun _ => (th_n (aw_cond rfl (fun h10 => ?_) (fun h10 => ?_)))
  · replace h10 := of_decide_eq_true h10
    refine aw_seq (aw_reg (rs_mv rfl rfl ?_))
    refine rs_nil fun _ => (th_n (aw_ret (th_r ?_)))
    rw [show decide (a = b) = false from decide_eq_false (fun e => h10 (by rw [e]))]
    exact ret_pure rfl rfl rfl (.inr rfl)
  · replace h10 := of_decide_eq_false h10
    refine aw_skip (th_n (aw_seq (aw_seq (aw_reg (rs_mv rfl rfl ?_)))))
    refine rs_len_m rfl rfl ?_
    refine rs_mv rfl rfl ?_
    refine rs_nil fun _ => (th_n (aw_block ?_))
    refine aw_fam (α := Nat) (fun k => a.length - k) (fun k => [(0, .rs 1 (a.map civ)), (1, .rs 1 (b.map civ)), (11, .rs 1 (a.map civ)), (12, iv (a.length : Int)), (13, iv (((k) : Nat) : Int))]) (fun k => []) (fun k => k ≤ a.length ∧ a.take k = b.take k) 0 (⟨by omega, rfl⟩)
      (weak_to (.cons rfl sm (.cons rfl sm (.cons rfl sm (.cons rfl sm (.cons rfl sm (.nil)))))) (.nil) (fun i h => by cases h)) ?_
    rintro k ⟨hk, hinv⟩
    refine aw_seq (aw_reg (rs_lss rfl rfl rfl ?_))
    refine rs_nil fun _ => (th_n (aw_seq (aw_cond rfl (fun h14 => ?_) (fun h14 => ?_))))
    · replace h14 := of_decide_eq_true h14
      refine aw_skip (th_n (aw_seq (aw_block (aw_seq (aw_reg (rs_mv rfl rfl ?_))))))
      refine rs_mv rfl rfl ?_
      refine rs_nil fun _ => (th_n (aw_seq (aw_draw hmix ?_)))
      obtain ⟨x, hxk, hxm⟩ := at_some (L := a) (k := k) (by omega)
      obtain ⟨y, hyk, hym⟩ := at_some (L := b) (k := k) (by omega)
      refine rs_mv rfl rfl ?_
      refine rs_mv rfl rfl ?_
      refine rs_ix_g (f := civ) (y := x) rfl rfl rfl (by omega) hxk ?_
      refine rs_ld_r rfl rfl rfl ?_
      refine rs_mv rfl rfl ?_
      refine rs_mv rfl rfl ?_
      refine rs_ix_g (f := civ) (y := y) rfl rfl rfl (by omega) hyk ?_
      refine rs_ld_r rfl rfl rfl ?_
      refine rs_neq rfl rfl rfl ?_
      refine rs_nil ⟨by kernel_rfl, fun _ => ?_⟩
      refine th_n (aw_cond rfl (fun h24 => ?_) (fun h24 => ?_))
      · replace h24 := of_decide_eq_true h24
        refine aw_seq (aw_reg (rs_mv rfl rfl ?_))
        refine rs_nil fun _ => (th_n (aw_ret (in_r (th_r (th_r (in_r (th_r ?_)))))))
        rw [show decide (a = b) = false from decide_eq_false (eq_hit hxk hyk h24)]
        exact ret_pure rfl rfl rfl (.inr rfl)
      · replace h24 := of_decide_eq_false h24
        refine aw_skip (in_n (th_n (aw_reg (rs_add rfl rfl rfl (by omega) ?_))))
        refine rs_mv rfl rfl ?_
        refine rs_nil fun _ => (th_n ?_)
        exact ⟨k + 1, ⟨by omega, eq_step hinv hxk hyk (Decidable.byContradiction h24)⟩, by omega, weak_to (.cons rfl sm (.cons rfl sm (.cons rfl sm (.cons rfl sm (.cons rfl sm (.nil)))))) (.nil) (fun i h => by cases h)⟩
    · replace h14 := of_decide_eq_false h14
      refine aw_exit ?_
      refine th_e ?_
      refine th_e ?_
      refine in_hit ?_
      refine th_n (aw_seq (aw_reg (rs_mv rfl rfl ?_)))
      refine rs_nil fun _ => (th_n (aw_ret ?_))
      rw [show decide (a = b) = true from decide_eq_true (eq_end hinv (by omega) (by omega))]
      exact ret_pure rfl rfl rfl (.inr rfl)
def mcv78 : MC := (.seq (.reg [oN 4 (.mv (.c (.bool false))) []] false) (.seq (.seq (.reg [oN 6 (.mv (.t 0)) [], oN 7 (.len (.t 6)) [0], oN 8 (.mv (.t 1)) [], oN 9 (.len (.t 8)) [2], oN 10 (.bin .neq (.t 7) (.t 9)) [1, 3]] false) (.cond (.t 10) (.seq (.reg [oN 4 (.mv (.c (.bool false))) []] false) .ret) .skip)) (.seq (.seq (.reg [oN 11 (.mv (.t 0)) [], oN 12 (.len (.t 11)) [0], oN 13 (.mv (.c (.int .i64 0))) []] false) (.block 0 (.loop (.seq (.reg [oN 14 (.bin .lss (.t 13) (.t 12)) []] false) (.seq (.cond (.t 14) .skip (.exit 0)) (.seq (.block 1 (.seq (.reg [oN 15 (.mv (.t 13)) [], oN 5 (.mv (.t 15)) [0, 0]] false) (.seq (.reg [oN 16 (.mv (.t 0)) [], oN 17 (.mv (.t 5)) [], oN 18 (.ixsl 1 (.t 16) (.t 17)) [0, 1], oN 19 (.ld false 1 (.t 18)) [2], oN 20 (.mv (.t 1)) [], oN 21 (.mv (.t 5)) [], oN 22 (.ixsl 1 (.t 20) (.t 21)) [4, 5], oN 23 (.ld false 1 (.t 22)) [6], oN 24 (.seq true (.t 19) (.t 23)) [3, 7]] true) (.cond (.t 24) (.seq (.reg [oN 4 (.mv (.c (.bool false))) []] false) .ret) .skip)))) (.reg [oN 25 (.bin .add (.t 13) (.c (.int .i64 1))) [], oN 13 (.mv (.t 25)) [0]] false))))))) (.seq (.reg [oN 4 (.mv (.c (.bool true))) []] false) .ret))))
theorem mcOkv78 : (match Tryz.f78.body with | some c => compC Tryz.prog 26 c | none => none) = some mcv78 := by kernel_rfl
theorem vc78 (a b : List (List Int)) (ha : ∀ d ∈ a, B8 d) (hb : ∀ d ∈ b, B8 d) (han : a.length ≤ 4611686018427387904) : FC Tryz.prog 78 [.rs 1 (a.map cS), .rs 1 (b.map cS)] [] (.bool (decide (a = b))) [] false := by
  refine fc_run (nt := 26) Tryz.func78 rfl rfl mcOkv78 (Nat.le_of_ble_eq_true rfl) ?_
  delta mcv78
  refine aw_seq (aw_reg (rs_mv rfl rfl ?_))
  refine rs_nil fun _ => (th_n (aw_seq (aw_seq (aw_reg (rs_mv rfl rfl ?_)))))
  refine rs_len_m rfl rfl ?_
  refine rs_mv rfl rfl ?_
  refine rs_len_m rfl rfl ?_
  refine rs_neq rfl rfl rfl ?_
  refine rs_nil fun _ => (th_n (aw_cond rfl (fun h10 => ?_) (fun h10 => ?_)))
  · replace h10 := of_decide_eq_true h10
    refine aw_seq (aw_reg (rs_mv rfl rfl ?_))
    refine rs_nil fun _ => (th_n (aw_ret (th_r ?_)))
    rw [show decide (a = b) = false from decide_eq_false (fun e => h10 (by rw [e]))]
    exact ret_pure rfl rfl rfl (.inr rfl)
  · replace h10 := of_decide_eq_false h10
    refine aw_skip (th_n (aw_seq (aw_seq (aw_reg (rs_mv rfl rfl ?_)))))
    refine rs_len_m rfl rfl ?_
    refine rs_mv rfl rfl ?_
    refine rs_nil fun _ => (th_n (aw_block ?_))
    refine aw_fam (α := Nat) (fun k => a.length - k) (fun k => [(0, .rs 1 (a.map cS)), (1, .rs 1 (b.map cS)), (11, .rs 1 (a.map cS)), (12, iv (a.length : Int)), (13, iv (((k) : Nat) : Int))]) (fun k => []) (fun k => k ≤ a.length ∧ a.take k = b.take k) 0 (⟨by omega, rfl⟩)
      (weak_to (.cons rfl sm (.cons rfl sm (.cons rfl sm (.cons rfl sm (.cons rfl sm (.nil)))))) (.nil) (fun i h => by cases h)) ?_
    rintro k ⟨hk, hinv⟩
    refine aw_seq (aw_reg (rs_lss rfl rfl rfl ?_))
    refine rs_nil fun _ => (th_n (aw_seq (aw_cond rfl (fun h14 => ?_) (fun h14 => ?_))))
    · replace h14 := of_decide_eq_true h14
      refine aw_skip (th_n (aw_seq (aw_block (aw_seq (aw_reg (rs_mv rfl rfl ?_))))))
      refine rs_mv rfl rfl ?_
      refine rs_nil fun _ => (th_n (aw_seq (aw_draw hmix ?_)))
      obtain ⟨x, hxk, hxm⟩ := at_some (L := a) (k := k) (by omega)
      obtain ⟨y, hyk, hym⟩ := at_some (L := b) (k := k) (by omega)
      refine rs_mv rfl rfl ?_
      refine rs_mv rfl rfl ?_
      refine rs_ix_g (f := cS) (y := x) rfl rfl rfl (by omega) hxk ?_
      refine rs_ld_r rfl rfl rfl ?_
      refine rs_mv rfl rfl ?_
      refine rs_mv rfl rfl ?_
      refine rs_ix_g (f := cS) (y := y) rfl rfl rfl (by omega) hyk ?_
      refine rs_ld_r rfl rfl rfl ?_
      refine rs_seq (r := decide (x ≠ y)) rfl rfl rfl (ha x hxm) (hb y hym) (by by_cases e : x = y <;> simp [e]) ?_
      refine rs_nil ⟨by kernel_rfl, fun _ => ?_⟩
      refine th_n (aw_cond rfl (fun h24 => ?_) (fun h24 => ?_))
      · replace h24 := of_decide_eq_true h24
        refine aw_seq (aw_reg (rs_mv rfl rfl ?_))
        refine rs_nil fun _ => (th_n (aw_ret (in_r (th_r (th_r (in_r (th_r ?_)))))))
        rw [show decide (a = b) = false from decide_eq_false (eq_hit hxk hyk h24)]
        exact ret_pure rfl rfl rfl (.inr rfl)
      · replace h24 := of_decide_eq_false h24
        refine aw_skip (in_n (th_n (aw_reg (rs_add rfl rfl rfl (by omega) ?_))))
        refine rs_mv rfl rfl ?_
        refine rs_nil fun _ => (th_n ?_)
        exact ⟨k + 1, ⟨by omega, eq_step hinv hxk hyk (Decidable.byContradiction h24)⟩, by omega, weak_to (.cons rfl sm (.cons rfl sm (.cons rfl sm (.cons rfl sm (.cons rfl sm (.nil)))))) (.nil) (fun i h => by cases h)⟩
    · replace h14 := of_decide_eq_false h14
      refine aw_exit ?_
      refine th_e ?_
      refine th_e ?_
      refine in_hit ?_
      refine th_n (aw_seq (aw_reg (rs_mv rfl rfl ?_)))
      refine rs_nil fun _ => (th_n (aw_ret ?_))
      rw [show decide (a = b) = true from decide_eq_true (eq_end hinv (by omega) (by omega))]
      exact ret_pure rfl rfl rfl (.inr rfl)
def mcv29 : MC := (.seq (.reg [oN 2 (.box 55 3 (.t 0)) [], oN 3 (.box 55 3 (.t 1)) [], oN 4 (.mv (.c (.int .i64 0))) []] false) (.seq (.reg [oN 16 (.ld true 3 (.t 2)) [], oN 17 (.call 72 [(.t 16)]) [0], oN 15 (.mv (.t 17)) [1], oN 18 (.ext (.t 15) 0) [2], oN 19 (.ext (.t 15) 1) [2], oN 5 (.mv (.t 18)) [3, 1, 0, 1, 2, 3], oN 6 (.mv (.t 19)) [4, 5, 0, 1, 2, 3, 4, 5]] false) (.seq (.reg [oN 21 (.ld true 3 (.t 3)) [], oN 22 (.call 72 [(.t 21)]) [0], oN 20 (.mv (.t 22)) [1], oN 23 (.ext (.t 20) 0) [2], oN 24 (.ext (.t 20) 1) [2], oN 7 (.mv (.t 23)) [3, 1, 0, 1, 2, 3], oN 8 (.mv (.t 24)) [4, 5, 0, 1, 2, 3, 4, 5]] false) (.seq (.block 0 (.seq (.reg [oN 26 (.mv (.t 6)) [], oN 27 (.un .not (.t 26)) [0], oN 28 (.mv (.t 27)) [1], oG 29 (.mv (.t 8)) 28 false [2], oG 30 (.un .not (.t 29)) 28 false [3, 2], oN 31 (.pick (.t 28) (.c (.bool true)) (.t 30)) [2, 4], oN 25 (.mv (.t 31)) [5, 2]] false) (.cond (.t 25) (.seq (.reg [oN 4 (.mv (.c (.int .i64 4))) []] false) .ret) (.seq (.reg [oN 33 (.fa 0 (.t 2)) [], oN 34 (.ld false 1 (.t 33)) [0], oN 35 (.fa 0 (.t 3)) [], oN 36 (.ld false 1 (.t 35)) [2], oN 37 (.bin .neq (.t 34) (.t 36)) [1, 3], oN 38 (.mv (.t 37)) [4], oG 39 (.fa 2 (.t 2)) 38 false [5], oG 40 (.ld false 1 (.t 39)) 38 false [6, 5], oG 41 (.fa 2 (.t 3)) 38 false [5], oG 42 (.ld false 1 (.t 41)) 38 false [8, 5], oG 43 (.call 78 [(.t 40), (.t 42)]) 38 false [7, 9, 5, 5], oG 44 (.un .not (.t 43)) 38 false [10, 5], oN 45 (.pick (.t 38) (.c (.bool true)) (.t 44)) [5, 11], oN 46 (.mv (.t 45)) [12, 10], oG 47 (.ld true 3 (.t 2)) 46 false [13], oG 48 (.call 80 [(.t 47)]) 46 false [14, 13, 13], oG 49 (.ld true 3 (.t 3)) 46 false [13], oG 50 (.call 80 [(.t 49)]) 46 false [16, 15, 13], oG 51 (.call 79 [(.t 48), (.t 50)]) 46 false [15, 17, 17, 13], oG 52 (.un .not (.t 51)) 46 false [18, 13], oN 53 (.pick (.t 46) (.c (.bool true)) (.t 52)) [13, 19], oN 32 (.mv (.t 53)) [20, 18]] true) (.cond (.t 32) (.seq (.reg [oN 4 (.mv (.c (.int .i64 54))) []] false) .ret) .skip))))) (.seq (.seq (.reg [oN 54 (.fa 1 (.t 2)) [], oN 55 (.ld false 1 (.t 54)) [0], oN 56 (.len (.t 55)) [1], oN 57 (.mv (.c (.int .i64 0))) []] false) (.block 1 (.loop (.seq (.reg [oN 58 (.bin .lss (.t 57) (.t 56)) []] false) (.seq (.cond (.t 58) .skip (.exit 1)) (.seq (.block 2 (.seq (.reg [oN 59 (.mv (.t 57)) [], oN 60 (.ixsl 5 (.t 55) (.t 57)) [], oN 61 (.ld true 5 (.t 60)) [1], oN 10 (.alloc 51 5 [(.int .i64 0), (.int .i64 0), (.bool false), (.bool false), (.str (strN []))]) [], oN 9 (.mv (.t 59)) [0, 0, 1, 2, 3], ⟨none, (.st 5 (.t 10) (.t 61)), none, [3, 2, 4, 0, 1, 2, 3, 4]⟩] false) (.seq (.reg [oN 62 (.fa 1 (.t 3)) [], oN 63 (.ld false 1 (.t 62)) [0], oN 64 (.mv (.t 9)) [], oN 65 (.ixsl 5 (.t 63) (.t 64)) [1, 2], oN 66 (.ld true 5 (.t 65)) [3], oN 11 (.alloc 51 5 [(.int .i64 0), (.int .i64 0), (.bool false), (.bool false), (.str (strN []))]) [], ⟨none, (.st 5 (.t 11) (.t 66)), none, [5, 4, 0, 1, 2, 3, 4, 5]⟩] false) (.seq (.reg [oN 67 (.fa 1 (.t 10)) [], oN 68 (.ld false 1 (.t 67)) [0], oN 69 (.fa 1 (.t 11)) [], oN 70 (.ld false 1 (.t 69)) [2], oN 71 (.bin .neq (.t 68) (.t 70)) [1, 3], oN 72 (.mv (.t 71)) [4], oG 73 (.fa 4 (.t 10)) 72 false [5], oG 74 (.ld false 1 (.t 73)) 72 false [6, 5], oG 75 (.fa 4 (.t 11)) 72 false [5], oG 76 (.ld false 1 (.t 75)) 72 false [8, 5], oG 77 (.seq true (.t 74) (.t 76)) 72 false [7, 9, 5], oN 78 (.pick (.t 72) (.c (.bool true)) (.t 77)) [5, 10]] false) (.cond (.t 78) (.seq (.reg [oN 4 (.mv (.c (.int .i64 1))) []] false) .ret) .skip))))) (.reg [oN 79 (.bin .add (.t 57) (.c (.int .i64 1))) [], oN 57 (.mv (.t 79)) [0]] false))))))) (.seq (.seq (.reg [oN 80 (.fa 1 (.t 2)) [], oN 81 (.ld false 1 (.t 80)) [0], oN 82 (.len (.t 81)) [1], oN 83 (.mv (.c (.int .i64 0))) []] false) (.block 3 (.loop (.seq (.reg [oN 84 (.bin .lss (.t 83) (.t 82)) []] false) (.seq (.cond (.t 84) .skip (.exit 3)) (.seq (.block 4 (.seq (.reg [oN 85 (.mv (.t 83)) [], oN 86 (.ixsl 5 (.t 81) (.t 83)) [], oN 87 (.ld true 5 (.t 86)) [1], oN 13 (.alloc 51 5 [(.int .i64 0), (.int .i64 0), (.bool false), (.bool false), (.str (strN []))]) [], oN 12 (.mv (.t 85)) [0, 0, 1, 2, 3], ⟨none, (.st 5 (.t 13) (.t 87)), none, [3, 2, 4, 0, 1, 2, 3, 4]⟩] false) (.seq (.reg [oN 88 (.fa 1 (.t 3)) [], oN 89 (.ld false 1 (.t 88)) [0], oN 90 (.mv (.t 12)) [], oN 91 (.ixsl 5 (.t 89) (.t 90)) [1, 2], oN 92 (.ld true 5 (.t 91)) [3], oN 14 (.alloc 51 5 [(.int .i64 0), (.int .i64 0), (.bool false), (.bool false), (.str (strN []))]) [], ⟨none, (.st 5 (.t 14) (.t 92)), none, [5, 4, 0, 1, 2, 3, 4, 5]⟩] false) (.seq (.reg [oN 93 (.fa 2 (.t 13)) [], oN 94 (.ld false 1 (.t 93)) [0], oN 95 (.mv (.t 94)) [1], oG 96 (.fa 2 (.t 14)) 95 true [2], oG 97 (.ld false 1 (.t 96)) 95 true [3, 2], oG 98 (.un .not (.t 97)) 95 true [4, 2], oN 99 (.pick (.t 95) (.t 98) (.c (.bool false))) [2, 5], oN 100 (.mv (.t 99)) [6, 2], oG 101 (.fa 3 (.t 13)) 100 false [7], oG 102 (.ld false 1 (.t 101)) 100 false [8, 7], oG 103 (.mv (.t 102)) 100 false [9, 7, 7], oG 104 (.fa 3 (.t 14)) 103 true [10], oG 105 (.ld false 1 (.t 104)) 103 true [11, 10], oG 106 (.un .not (.t 105)) 103 true [12, 10], oG 107 (.pick (.t 103) (.t 106) (.c (.bool false))) 100 false [10, 13, 7], oN 108 (.pick (.t 100) (.c (.bool true)) (.t 107)) [7, 14]] false) (.cond (.t 108) (.seq (.reg [oN 4 (.mv (.c (.int .i64 7))) []] false) .ret) .skip))))) (.reg [oN 109 (.bin .add (.t 83) (.c (.int .i64 1))) [], oN 83 (.mv (.t 109)) [0]] false))))))) (.seq (.reg [oN 4 (.mv (.c (.int .i64 0))) []] false) .ret)))))))
theorem mcOkv29 : (match Tryz.f29.body with | some c => compC Tryz.prog 110 c | none => none) = some mcv29 := by kernel_rfl
set_option maxHeartbeats 2000000 in
theorem vc29 (z : Int) (lv : List Lf) (hd : List (List Int)) (h : ShOK lv hd) (z2 : Int) (lv2 : List Lf) (hd2 : List (List Int)) (h2 : ShOK lv2 hd2) : FC Tryz.prog 29 [.agg [.int .i64 z, .rs 5 (lv.map cLf), .rs 1 (hd.map cS)], .agg [.int .i64 z2, .rs 5 (lv2.map cLf), .rs 1 (hd2.map cS)]] [] (iv (changeS z lv hd z2 lv2 hd2)) [] false := by
  have hnl := h.nl
  have hnh := h.nh
  have hnl2 := h2.nl
  refine fc_run (nt := 110) Tryz.func29 rfl rfl mcOkv29 (Nat.le_of_ble_eq_true rfl) ?_
  delta mcv29
  refine aw_seq (aw_reg (rs_box rfl rfl rfl rfl rfl rfl ?_))
  refine rs_box rfl rfl rfl rfl rfl rfl ?_
  refine rs_mv rfl rfl ?_
  refine rs_nil fun _ => (th_n (aw_seq (aw_reg (rs_ld_pa rfl rfl rfl rfl (Nat.le_of_ble_eq_true rfl) rfl ?_))))
  refine rs_callo [] rfl rfl (vc72 z lv hd h.nl h.nh) (.cons (hv_same rfl) .nil) .nil rfl rfl rfl ?_
  refine rs_mv rfl rfl ?_
  refine rs_ext rfl rfl rfl ?_
  refine rs_ext rfl rfl rfl ?_
  cases h19 : (fmS z lv hd).isSome
  · skip
    refine rs_mv rfl rfl ?_
    refine rs_mv rfl rfl ?_
    refine rs_nil fun _ => (th_n (aw_seq (aw_reg (rs_ld_pa rfl rfl rfl rfl (Nat.le_of_ble_eq_true rfl) rfl ?_))))
    refine rs_callo [] rfl rfl (vc72 z2 lv2 hd2 h2.nl h2.nh) (.cons (hv_same rfl) .nil) .nil rfl rfl rfl ?_
    refine rs_mv rfl rfl ?_
    refine rs_ext rfl rfl rfl ?_
    refine rs_ext rfl rfl rfl ?_
    cases h24 : (fmS z2 lv2 hd2).isSome
    · skip
      refine rs_mv rfl rfl ?_
      refine rs_mv rfl rfl ?_
      refine rs_nil fun _ => (th_n (aw_seq (aw_block (aw_seq (aw_reg (rs_mv rfl rfl ?_))))))
      refine rs_not rfl rfl ?_
      refine rs_mv rfl rfl ?_
      refine rs_skip rfl ?_
      refine rs_skip rfl ?_
      refine rs_pick rfl rfl rfl ?_
      refine rs_mv rfl rfl ?_
      refine rs_nil fun _ => (th_n (aw_cond rfl (fun _ => ?_) (fun h => by cases h)))
      refine aw_seq (aw_reg (rs_mv rfl rfl ?_))
      refine rs_nil fun _ => (th_n (aw_ret (in_r (th_r ?_))))
      rw [ch_1 (by rw [h19]; rfl)]
      exact ret_pure rfl rfl rfl (.inr rfl)
    · skip
      refine rs_mv rfl rfl ?_
      refine rs_mv rfl rfl ?_
      refine rs_nil fun _ => (th_n (aw_seq (aw_block (aw_seq (aw_reg (rs_mv rfl rfl ?_))))))
      refine rs_not rfl rfl ?_
      refine rs_mv rfl rfl ?_
      refine rs_skip rfl ?_
      refine rs_skip rfl ?_
      refine rs_pick rfl rfl rfl ?_
      refine rs_mv rfl rfl ?_
      refine rs_nil fun _ => (th_n (aw_cond rfl (fun _ => ?_) (fun h => by cases h)))
      refine aw_seq (aw_reg (rs_mv rfl rfl ?_))
      refine rs_nil fun _ => (th_n (aw_ret (in_r (th_r ?_))))
      rw [ch_1 (by rw [h19]; rfl)]
      exact ret_pure rfl rfl rfl (.inr rfl)
  · skip
    refine rs_mv rfl rfl ?_
    refine rs_mv rfl rfl ?_
    refine rs_nil fun _ => (th_n (aw_seq (aw_reg (rs_ld_pa rfl rfl rfl rfl (Nat.le_of_ble_eq_true rfl) rfl ?_))))
    refine rs_callo [] rfl rfl (vc72 z2 lv2 hd2 h2.nl h2.nh) (.cons (hv_same rfl) .nil) .nil rfl rfl rfl ?_
    refine rs_mv rfl rfl ?_
    refine rs_ext rfl rfl rfl ?_
    refine rs_ext rfl rfl rfl ?_
    cases h24 : (fmS z2 lv2 hd2).isSome
    · skip
      refine rs_mv rfl rfl ?_
      refine rs_mv rfl rfl ?_
      refine rs_nil fun _ => (th_n (aw_seq (aw_block (aw_seq (aw_reg (rs_mv rfl rfl ?_))))))
      refine rs_not rfl rfl ?_
      refine rs_mv rfl rfl ?_
      refine rs_mv rfl rfl ?_
      refine rs_not rfl rfl ?_
      refine rs_pick rfl rfl rfl ?_
      refine rs_mv rfl rfl ?_
      refine rs_nil fun _ => (th_n (aw_cond rfl (fun _ => ?_) (fun h => by cases h)))
      refine aw_seq (aw_reg (rs_mv rfl rfl ?_))
      refine rs_nil fun _ => (th_n (aw_ret (in_r (th_r ?_))))
      rw [ch_1 (by rw [h19, h24]; rfl)]
      exact ret_pure rfl rfl rfl (.inr rfl)
    · skip
      refine rs_mv rfl rfl ?_
      refine rs_mv rfl rfl ?_
      refine rs_nil fun _ => (th_n (aw_seq (aw_block (aw_seq (aw_reg (rs_mv rfl rfl ?_))))))
      refine rs_not rfl rfl ?_
      refine rs_mv rfl rfl ?_
      refine rs_mv rfl rfl ?_
      refine rs_not rfl rfl ?_
      refine rs_pick rfl rfl rfl ?_
      refine rs_mv rfl rfl ?_
      refine rs_nil fun _ => (th_n (aw_cond rfl (fun h => by cases h) (fun _ => ?_)))
      refine aw_seq (aw_draw hmix ?_)
      refine rs_fa_p rfl rfl ?_
      refine rs_ld_p rfl rfl rfl rfl rfl ?_
      refine rs_fa_p rfl rfl ?_
      refine rs_ld_p rfl rfl rfl rfl rfl ?_
      refine rs_cmp rfl rfl rfl rfl (fun h37 => ?_) (fun h37 => ?_)
      · skip
        refine rs_mv rfl rfl ?_
        refine rs_skip rfl ?_
        refine rs_skip rfl ?_
        refine rs_skip rfl ?_
        refine rs_skip rfl ?_
        refine rs_skip rfl ?_
        refine rs_skip rfl ?_
        refine rs_pick rfl rfl rfl ?_
        refine rs_mv rfl rfl ?_
        refine rs_skip rfl ?_
        refine rs_skip rfl ?_
        refine rs_skip rfl ?_
        refine rs_skip rfl ?_
        refine rs_skip rfl ?_
        refine rs_skip rfl ?_
        refine rs_pick rfl rfl rfl ?_
        refine rs_mv rfl rfl ?_
        refine rs_nil ⟨by kernel_rfl, fun _ => ?_⟩
        refine th_n (aw_cond rfl (fun _ => ?_) (fun h => by cases h))
        refine aw_seq (aw_reg (rs_mv rfl rfl ?_))
        refine rs_nil fun _ => (th_n (aw_ret (in_r (th_r ?_))))
        rw [ch_2 (by rw [h19, h24]; rfl) (by rw [decide_eq_false h37]; rfl)]
        exact ret_pure rfl rfl rfl (.inr rfl)
      · skip
        refine rs_mv rfl rfl ?_
        refine rs_fa_p rfl rfl ?_
        refine rs_ld_p rfl rfl rfl rfl rfl ?_
        refine rs_fa_p rfl rfl ?_
        refine rs_ld_p rfl rfl rfl rfl rfl ?_
        refine rs_calln [] rfl rfl (vc78 hd hd2 (fun d hd => (h.b d hd).1) (fun d hd => (h2.b d hd).1) (by omega)) (.cons (hv_same rfl) (.cons (hv_same rfl) (.nil))) rfl ?_
        cases h43 : decide (hd = hd2)
        · skip
          refine rs_not rfl rfl ?_
          refine rs_pick rfl rfl rfl ?_
          refine rs_mv rfl rfl ?_
          refine rs_skip rfl ?_
          refine rs_skip rfl ?_
          refine rs_skip rfl ?_
          refine rs_skip rfl ?_
          refine rs_skip rfl ?_
          refine rs_skip rfl ?_
          refine rs_pick rfl rfl rfl ?_
          refine rs_mv rfl rfl ?_
          refine rs_nil ⟨by kernel_rfl, fun _ => ?_⟩
          refine th_n (aw_cond rfl (fun _ => ?_) (fun h => by cases h))
          refine aw_seq (aw_reg (rs_mv rfl rfl ?_))
          refine rs_nil fun _ => (th_n (aw_ret (in_r (th_r ?_))))
          rw [ch_2 (by rw [h19, h24]; rfl) (by rw [h43, Bool.and_false]; rfl)]
          exact ret_pure rfl rfl rfl (.inr rfl)
        · skip
          refine rs_not rfl rfl ?_
          refine rs_pick rfl rfl rfl ?_
          refine rs_mv rfl rfl ?_
          refine rs_ld_pa rfl rfl rfl rfl (Nat.le_of_ble_eq_true rfl) rfl ?_
          refine rs_calln [] rfl rfl (vc80 z lv hd h.nl) (.cons (hv_same rfl) (.nil)) rfl ?_
          refine rs_ld_pa rfl rfl rfl rfl (Nat.le_of_ble_eq_true rfl) rfl ?_
          refine rs_calln [] rfl rfl (vc80 z2 lv2 hd2 h2.nl) (.cons (hv_same rfl) (.nil)) rfl ?_
          refine rs_calln [] rfl rfl (vc79 (ixsF lv) (ixsF lv2) (by simp; omega)) (.cons (hv_same rfl) (.cons (hv_same rfl) (.nil))) rfl ?_
          cases h51 : decide (ixsF lv = ixsF lv2)
          · skip
            refine rs_not rfl rfl ?_
            refine rs_pick rfl rfl rfl ?_
            refine rs_mv rfl rfl ?_
            refine rs_nil ⟨by kernel_rfl, fun _ => ?_⟩
            refine th_n (aw_cond rfl (fun _ => ?_) (fun h => by cases h))
            refine aw_seq (aw_reg (rs_mv rfl rfl ?_))
            refine rs_nil fun _ => (th_n (aw_ret (in_r (th_r ?_))))
            rw [ch_2 (by rw [h19, h24]; rfl) (by rw [h51, Bool.and_false])]
            exact ret_pure rfl rfl rfl (.inr rfl)
          · skip
            refine rs_not rfl rfl ?_
            refine rs_pick rfl rfl rfl ?_
            refine rs_mv rfl rfl ?_
            refine rs_nil ⟨by kernel_rfl, fun _ => ?_⟩
            refine th_n (aw_cond rfl (fun h => by cases h) (fun _ => ?_))
            refine aw_skip (in_n (th_n (aw_seq (aw_seq ?_))))
            have hfm : ((fmS z lv hd).isSome && (fmS z2 lv2 hd2).isSome) = true := by rw [h19, h24]; rfl
            have heq : (decide (z = z2) && decide (hd = hd2) && decide (ixsF lv = ixsF lv2)) = true := by rw [h43, h51, decide_eq_true (Decidable.byContradiction h37)]; rfl
            have hll : lv.length = lv2.length := by have := congrArg List.length (of_decide_eq_true h51); simpa using this
            refine aw_reg (rs_fa_p rfl rfl ?_)
            refine rs_ld_p rfl rfl rfl rfl rfl ?_
            refine rs_len_m rfl rfl ?_
            refine rs_mv rfl rfl ?_
            refine rs_nil fun _ => (th_n (aw_block ?_))
            refine aw_fam (α := Nat) (fun k => lv.length - k) (fun k => [(2, .ptr 2 0 0), (3, .ptr 3 0 0), (55, .rs 5 (lv.map cLf)), (56, iv (lv.length : Int)), (57, iv (((k) : Nat) : Int))]) (fun k => [(2, .cells 55 3 [[.int .i64 z, .rs 5 (lv.map cLf), .rs 1 (hd.map cS)]] true), (3, .cells 55 3 [[.int .i64 z2, .rs 5 (lv2.map cLf), .rs 1 (hd2.map cS)]] true)]) (fun k => k ≤ lv.length ∧ allZ sameWS (lv.drop k) (lv2.drop k) = allZ sameWS lv lv2) 0 (⟨by omega, rfl⟩)
              (weak_to (.cons rfl sm (.cons rfl sm (.cons rfl sm (.cons rfl sm (.cons rfl sm (.nil)))))) (.keep (rfl) rfl (.keep (rfl) rfl (.nil))) (fun i h => by cases h)) ?_
            rintro k ⟨hk, hinv⟩
            refine aw_seq (aw_reg (rs_lss rfl rfl rfl ?_))
            refine rs_nil fun _ => (th_n (aw_seq (aw_cond rfl (fun h58 => ?_) (fun h58 => ?_))))
            · replace h58 := of_decide_eq_true h58
              refine aw_skip (th_n (aw_seq (aw_block (aw_seq (aw_reg (rs_mv rfl rfl ?_))))))
              obtain ⟨x, hxk, hxm⟩ := at_some (L := lv) (k := k) (by omega)
              obtain ⟨y, hyk, hym⟩ := at_some (L := lv2) (k := k) (by omega)
              refine rs_ix_g (f := cLf) (y := x) rfl rfl rfl (by omega) hxk ?_
              refine rs_ld_ra (cs := cLf x) rfl rfl (Nat.le_of_ble_eq_true rfl) rfl ?_
              refine rs_alloc rfl rfl rfl ?_
              refine rs_mv rfl rfl ?_
              refine rs_st rfl rfl rfl rfl rfl rfl rfl (Nat.le_of_ble_eq_true rfl) rfl rfl ?_
              refine rs_nil fun _ => (th_n (aw_seq (aw_reg (rs_fa_p rfl rfl ?_))))
              refine rs_ld_p rfl rfl rfl rfl rfl ?_
              refine rs_mv rfl rfl ?_
              refine rs_ix_g (f := cLf) (y := y) rfl rfl rfl (by omega) hyk ?_
              refine rs_ld_ra (cs := cLf y) rfl rfl (Nat.le_of_ble_eq_true rfl) rfl ?_
              refine rs_alloc rfl rfl rfl ?_
              refine rs_st rfl rfl rfl rfl rfl rfl rfl (Nat.le_of_ble_eq_true rfl) rfl rfl ?_
              refine rs_nil fun _ => (th_n (aw_seq (aw_reg (rs_fa_p rfl rfl ?_))))
              refine rs_ld_p rfl rfl rfl rfl rfl ?_
              refine rs_fa_p rfl rfl ?_
              refine rs_ld_p rfl rfl rfl rfl rfl ?_
              refine rs_cmp rfl rfl rfl rfl (fun h71 => ?_) (fun h71 => ?_)
              · skip
                refine rs_mv rfl rfl ?_
                refine rs_skip rfl ?_
                refine rs_skip rfl ?_
                refine rs_skip rfl ?_
                refine rs_skip rfl ?_
                refine rs_skip rfl ?_
                refine rs_pick rfl rfl rfl ?_
                refine rs_nil fun _ => (th_n (aw_cond rfl (fun _ => ?_) (fun h => by cases h)))
                refine aw_seq (aw_reg (rs_mv rfl rfl ?_))
                refine rs_nil fun _ => (th_n (aw_ret (in_r (th_r (th_r (in_r (th_r ?_)))))))
                rw [ch_3 hfm heq (by rw [← hinv, allZ_at hxk hyk, show sameWS x y = false from by simp only [sameWS, Bool.and_eq_false_iff, decide_eq_false_iff_not]; exact .inl h71]; rfl)]
                exact ret_pure rfl rfl rfl (.inr rfl)
              · skip
                refine rs_mv rfl rfl ?_
                refine rs_fa_p rfl rfl ?_
                refine rs_ld_p rfl rfl rfl rfl rfl ?_
                refine rs_fa_p rfl rfl ?_
                refine rs_ld_p rfl rfl rfl rfl rfl ?_
                refine rs_seq (r := decide (x.salt ≠ y.salt)) rfl rfl rfl ((h.ok x hxm).b) ((h2.ok y hym).b) (by by_cases e : x.salt = y.salt <;> simp [e]) ?_
                cases h77 : decide (x.salt ≠ y.salt)
                · skip
                  refine rs_pick rfl rfl rfl ?_
                  refine rs_nil fun _ => (th_n (aw_cond rfl (fun h => by cases h) (fun _ => ?_)))
                  refine aw_skip (in_n (th_n (aw_reg (rs_add rfl rfl rfl (by omega) ?_))))
                  refine rs_mv rfl rfl ?_
                  refine rs_nil fun _ => (th_n ?_)
                  rw [allZ_at hxk hyk, show sameWS x y = true from by simp only [sameWS, Bool.and_eq_true, decide_eq_true_eq]; exact ⟨Decidable.byContradiction h71, Decidable.byContradiction fun e => by rw [decide_eq_true e] at h77; cases h77⟩, Bool.true_and] at hinv
                  exact ⟨k + 1, ⟨by omega, hinv⟩, by omega, weak_to (.cons rfl sm (.cons rfl sm (.cons rfl sm (.cons rfl sm (.cons rfl sm (.nil)))))) (.keep (rfl) rfl (.keep (rfl) rfl (.nil))) (fun i h => by cases h)⟩
                · skip
                  refine rs_pick rfl rfl rfl ?_
                  refine rs_nil fun _ => (th_n (aw_cond rfl (fun _ => ?_) (fun h => by cases h)))
                  refine aw_seq (aw_reg (rs_mv rfl rfl ?_))
                  refine rs_nil fun _ => (th_n (aw_ret (in_r (th_r (th_r (in_r (th_r ?_)))))))
                  rw [ch_3 hfm heq (by rw [← hinv, allZ_at hxk hyk, show sameWS x y = false from by simp only [sameWS, Bool.and_eq_false_iff, decide_eq_false_iff_not]; exact .inr (of_decide_eq_true h77)]; rfl)]
                  exact ret_pure rfl rfl rfl (.inr rfl)
            · replace h58 := of_decide_eq_false h58
              refine aw_exit ?_
              refine th_e ?_
              refine th_e ?_
              refine in_hit ?_
              refine th_n (aw_seq (aw_seq ?_))
              have hws : allZ sameWS lv lv2 = true := by rw [← hinv]; exact allZ_end (by omega)
              clear hinv
              refine aw_reg (rs_fa_p rfl rfl ?_)
              refine rs_ld_p rfl rfl rfl rfl rfl ?_
              refine rs_len_m rfl rfl ?_
              refine rs_mv rfl rfl ?_
              refine rs_nil fun _ => (th_n (aw_block ?_))
              refine aw_fam (α := Nat) (fun k => lv.length - k) (fun k => [(2, .ptr 2 0 0), (3, .ptr 3 0 0), (81, .rs 5 (lv.map cLf)), (82, iv (lv.length : Int)), (83, iv (((k) : Nat) : Int))]) (fun k => [(2, .cells 55 3 [[.int .i64 z, .rs 5 (lv.map cLf), .rs 1 (hd.map cS)]] true), (3, .cells 55 3 [[.int .i64 z2, .rs 5 (lv2.map cLf), .rs 1 (hd2.map cS)]] true)]) (fun k => k ≤ lv.length ∧ allZ keepB (lv.drop k) (lv2.drop k) = allZ keepB lv lv2) 0 (⟨by omega, rfl⟩)
                (weak_to (.cons rfl sm (.cons rfl sm (.cons rfl sm (.cons rfl sm (.cons rfl sm (.nil)))))) (.keep (rfl) rfl (.keep (rfl) rfl (.nil))) (fun i h => by cases h)) ?_
              rintro k ⟨hk, hinv⟩
              refine aw_seq (aw_reg (rs_lss rfl rfl rfl ?_))
              refine rs_nil fun _ => (th_n (aw_seq (aw_cond rfl (fun h84 => ?_) (fun h84 => ?_))))
              · replace h84 := of_decide_eq_true h84
                refine aw_skip (th_n (aw_seq (aw_block (aw_seq (aw_reg (rs_mv rfl rfl ?_))))))
                obtain ⟨x, hxk, hxm⟩ := at_some (L := lv) (k := k) (by omega)
                obtain ⟨y, hyk, hym⟩ := at_some (L := lv2) (k := k) (by omega)
                refine rs_ix_g (f := cLf) (y := x) rfl rfl rfl (by omega) hxk ?_
                refine rs_ld_ra (cs := cLf x) rfl rfl (Nat.le_of_ble_eq_true rfl) rfl ?_
                refine rs_alloc rfl rfl rfl ?_
                refine rs_mv rfl rfl ?_
                refine rs_st rfl rfl rfl rfl rfl rfl rfl (Nat.le_of_ble_eq_true rfl) rfl rfl ?_
                refine rs_nil fun _ => (th_n (aw_seq (aw_reg (rs_fa_p rfl rfl ?_))))
                refine rs_ld_p rfl rfl rfl rfl rfl ?_
                refine rs_mv rfl rfl ?_
                refine rs_ix_g (f := cLf) (y := y) rfl rfl rfl (by omega) hyk ?_
                refine rs_ld_ra (cs := cLf y) rfl rfl (Nat.le_of_ble_eq_true rfl) rfl ?_
                refine rs_alloc rfl rfl rfl ?_
                refine rs_st rfl rfl rfl rfl rfl rfl rfl (Nat.le_of_ble_eq_true rfl) rfl rfl ?_
                refine rs_nil fun _ => (th_n (aw_seq (aw_reg (rs_fa_p rfl rfl ?_))))
                refine rs_ld_p rfl rfl rfl rfl rfl ?_
                cases h94 : x.sure
                · skip
                  refine rs_mv rfl rfl ?_
                  refine rs_skip rfl ?_
                  refine rs_skip rfl ?_
                  refine rs_skip rfl ?_
                  refine rs_pick rfl rfl rfl ?_
                  refine rs_mv rfl rfl ?_
                  refine rs_fa_p rfl rfl ?_
                  refine rs_ld_p rfl rfl rfl rfl rfl ?_
                  cases h102 : x.touched
                  · skip
                    refine rs_mv rfl rfl ?_
                    refine rs_skip rfl ?_
                    refine rs_skip rfl ?_
                    refine rs_skip rfl ?_
                    refine rs_pick rfl rfl rfl ?_
                    refine rs_pick rfl rfl rfl ?_
                    refine rs_nil fun _ => (th_n (aw_cond rfl (fun h => by cases h) (fun _ => ?_)))
                    refine aw_skip (in_n (th_n (aw_reg (rs_add rfl rfl rfl (by omega) ?_))))
                    refine rs_mv rfl rfl ?_
                    refine rs_nil fun _ => (th_n ?_)
                    rw [allZ_at hxk hyk, show keepB x y = true from by simp only [keepB, h94, h102]; rfl, Bool.true_and] at hinv
                    exact ⟨k + 1, ⟨by omega, hinv⟩, by omega, weak_to (.cons rfl sm (.cons rfl sm (.cons rfl sm (.cons rfl sm (.cons rfl sm (.nil)))))) (.keep (rfl) rfl (.keep (rfl) rfl (.nil))) (fun i h => by cases h)⟩
                  · skip
                    refine rs_mv rfl rfl ?_
                    refine rs_fa_p rfl rfl ?_
                    refine rs_ld_p rfl rfl rfl rfl rfl ?_
                    cases h105 : y.touched
                    · skip
                      refine rs_not rfl rfl ?_
                      refine rs_pick rfl rfl rfl ?_
                      refine rs_pick rfl rfl rfl ?_
                      refine rs_nil fun _ => (th_n (aw_cond rfl (fun _ => ?_) (fun h => by cases h)))
                      refine aw_seq (aw_reg (rs_mv rfl rfl ?_))
                      refine rs_nil fun _ => (th_n (aw_ret (in_r (th_r (th_r (in_r (th_r ?_)))))))
                      rw [ch_4 hfm heq hws (by rw [← hinv, allZ_at hxk hyk, show keepB x y = false from by simp only [keepB, h94, h102, h105]; rfl]; rfl)]
                      exact ret_pure rfl rfl rfl (.inr rfl)
                    · skip
                      refine rs_not rfl rfl ?_
                      refine rs_pick rfl rfl rfl ?_
                      refine rs_pick rfl rfl rfl ?_
                      refine rs_nil fun _ => (th_n (aw_cond rfl (fun h => by cases h) (fun _ => ?_)))
                      refine aw_skip (in_n (th_n (aw_reg (rs_add rfl rfl rfl (by omega) ?_))))
                      refine rs_mv rfl rfl ?_
                      refine rs_nil fun _ => (th_n ?_)
                      rw [allZ_at hxk hyk, show keepB x y = true from by simp only [keepB, h94, h102, h105]; rfl, Bool.true_and] at hinv
                      exact ⟨k + 1, ⟨by omega, hinv⟩, by omega, weak_to (.cons rfl sm (.cons rfl sm (.cons rfl sm (.cons rfl sm (.cons rfl sm (.nil)))))) (.keep (rfl) rfl (.keep (rfl) rfl (.nil))) (fun i h => by cases h)⟩
                · skip
                  refine rs_mv rfl rfl ?_
                  refine rs_fa_p rfl rfl ?_
                  refine rs_ld_p rfl rfl rfl rfl rfl ?_
                  cases h97 : y.sure
                  · skip
                    refine rs_not rfl rfl ?_
                    refine rs_pick rfl rfl rfl ?_
                    refine rs_mv rfl rfl ?_
                    refine rs_skip rfl ?_
                    refine rs_skip rfl ?_
                    refine rs_skip rfl ?_
                    refine rs_skip rfl ?_
                    refine rs_skip rfl ?_
                    refine rs_skip rfl ?_
                    refine rs_skip rfl ?_
                    refine rs_pick rfl rfl rfl ?_
                    refine rs_nil fun _ => (th_n (aw_cond rfl (fun _ => ?_) (fun h => by cases h)))
                    refine aw_seq (aw_reg (rs_mv rfl rfl ?_))
                    refine rs_nil fun _ => (th_n (aw_ret (in_r (th_r (th_r (in_r (th_r ?_)))))))
                    rw [ch_4 hfm heq hws (by rw [← hinv, allZ_at hxk hyk, show keepB x y = false from by simp only [keepB, h94, h97]; rfl]; rfl)]
                    exact ret_pure rfl rfl rfl (.inr rfl)
                  · skip
                    refine rs_not rfl rfl ?_
                    refine rs_pick rfl rfl rfl ?_
                    refine rs_mv rfl rfl ?_
                    refine rs_fa_p rfl rfl ?_
                    refine rs_ld_p rfl rfl rfl rfl rfl ?_
                    cases h102 : x.touched
                    · skip
                      refine rs_mv rfl rfl ?_
                      refine rs_skip rfl ?_
                      refine rs_skip rfl ?_
                      refine rs_skip rfl ?_
                      refine rs_pick rfl rfl rfl ?_
                      refine rs_pick rfl rfl rfl ?_
                      refine rs_nil fun _ => (th_n (aw_cond rfl (fun h => by cases h) (fun _ => ?_)))
                      refine aw_skip (in_n (th_n (aw_reg (rs_add rfl rfl rfl (by omega) ?_))))
                      refine rs_mv rfl rfl ?_
                      refine rs_nil fun _ => (th_n ?_)
                      rw [allZ_at hxk hyk, show keepB x y = true from by simp only [keepB, h94, h97, h102]; rfl, Bool.true_and] at hinv
                      exact ⟨k + 1, ⟨by omega, hinv⟩, by omega, weak_to (.cons rfl sm (.cons rfl sm (.cons rfl sm (.cons rfl sm (.cons rfl sm (.nil)))))) (.keep (rfl) rfl (.keep (rfl) rfl (.nil))) (fun i h => by cases h)⟩
                    · skip
                      refine rs_mv rfl rfl ?_
                      refine rs_fa_p rfl rfl ?_
                      refine rs_ld_p rfl rfl rfl rfl rfl ?_
                      cases h105 : y.touched
                      · skip
                        refine rs_not rfl rfl ?_
                        refine rs_pick rfl rfl rfl ?_
                        refine rs_pick rfl rfl rfl ?_
                        refine rs_nil fun _ => (th_n (aw_cond rfl (fun _ => ?_) (fun h => by cases h)))
                        refine aw_seq (aw_reg (rs_mv rfl rfl ?_))
                        refine rs_nil fun _ => (th_n (aw_ret (in_r (th_r (th_r (in_r (th_r ?_)))))))
                        rw [ch_4 hfm heq hws (by rw [← hinv, allZ_at hxk hyk, show keepB x y = false from by simp only [keepB, h94, h97, h102, h105]; rfl]; rfl)]
                        exact ret_pure rfl rfl rfl (.inr rfl)
                      · skip
                        refine rs_not rfl rfl ?_
                        refine rs_pick rfl rfl rfl ?_
                        refine rs_pick rfl rfl rfl ?_
                        refine rs_nil fun _ => (th_n (aw_cond rfl (fun h => by cases h) (fun _ => ?_)))
                        refine aw_skip (in_n (th_n (aw_reg (rs_add rfl rfl rfl (by omega) ?_))))
                        refine rs_mv rfl rfl ?_
                        refine rs_nil fun _ => (th_n ?_)
                        rw [allZ_at hxk hyk, show keepB x y = true from by simp only [keepB, h94, h97, h102, h105]; rfl, Bool.true_and] at hinv
                        exact ⟨k + 1, ⟨by omega, hinv⟩, by omega, weak_to (.cons rfl sm (.cons rfl sm (.cons rfl sm (.cons rfl sm (.cons rfl sm (.nil)))))) (.keep (rfl) rfl (.keep (rfl) rfl (.nil))) (fun i h => by cases h)⟩
              · replace h84 := of_decide_eq_false h84
                refine aw_exit ?_
                refine th_e ?_
                refine th_e ?_
                refine in_hit ?_
                refine th_n (aw_seq (aw_reg (rs_mv rfl rfl ?_)))
                refine rs_nil fun _ => (th_n (aw_ret ?_))
                rw [ch_5 hfm heq hws (by rw [← hinv]; exact allZ_end (by omega))]
                exact ret_pure rfl rfl rfl (.inr rfl)
end Go.Proofs.YthfhaoogcpfboaaGreat

/-! Walks: VJ. -/
namespace Go.Proofs.YthfhaoogcpfboaaGreat
open Go.RowKit
set_option maxRecDepth 100000
set_option linter.unusedVariables false
def scs (x : Lf) : List Sc := [.i x.ix, .i x.want, .b x.sure, .b x.touched, .s (strN x.salt).toList]
theorem scs_eq {x y : Lf} (hx : B8 x.salt) (hy : B8 y.salt) : (true != decide (scs x = scs y)) = decide (x ≠ y) := by
  have h := strN_inj hx hy
  by_cases e : x = y
  · subst e; simp
  · have h2 : ¬ scs x = scs y := fun q => e (by
      simp only [scs, List.cons.injEq, Sc.i.injEq, Sc.b.injEq, Sc.s.injEq, and_true] at q
      obtain ⟨h1, h2, h3, h4, h5⟩ := q
      rw [h5] at h
      have h6 : x.salt = y.salt := by simpa using h.symm
      obtain ⟨a1, a2, a3, a4, a5⟩ := x
      obtain ⟨b1, b2, b3, b4, b5⟩ := y
      simp only at h1 h2 h3 h4 h6
      rw [h1, h2, h3, h4, h6])
    simp [e, h2]
/-- Is a bit of a number set? -/
def bitB (s : Int) (k : Nat) : Bool := decide (bits .and .i64 (s.fdiv (2 ^ min k 64)) 1 = 1)
def someS (s : Int) (n : Nat) : List Int := ((List.range n).filter (bitB s)).map fun (k : Nat) => (k : Int)
theorem some_t {s : Int} {n : Nat} (h : bitB s n = true) : someS s (n + 1) = someS s n ++ [(n : Int)] := by
  unfold someS; rw [List.range_succ, List.filter_append, List.map_append]; simp [h]
theorem some_f {s : Int} {n : Nat} (h : bitB s n = false) : someS s (n + 1) = someS s n := by
  unfold someS; rw [List.range_succ, List.filter_append, List.map_append]; simp [h]
theorem some_len (s : Int) (n : Nat) : (someS s n).length ≤ n := by
  unfold someS; rw [List.length_map]; exact Nat.le_trans (List.length_filter_le _ _) (by simp)
theorem some_bd {s : Int} {n : Nat} : ∀ x ∈ someS s n, 0 ≤ x ∧ x < (n : Int) := fun x hx => by
  obtain ⟨k, hk, rfl⟩ := List.mem_map.1 hx
  have := List.mem_range.1 (List.mem_filter.1 hk).1
  omega
theorem some_ix (s : Int) {n : Nat} (h : n ≤ 16) : IxOK n (someS s n) where
  bd := some_bd
  n := Nat.le_trans (some_len s n) h
  inc k a b ha hb := by
    have hp : (someS s n).Pairwise (· < ·) := by
      unfold someS
      rw [List.pairwise_map]
      exact (List.pairwise_lt_range.filter _).imp fun h => by omega
    obtain ⟨h1, rfl⟩ := List.getElem?_eq_some_iff.1 ha
    obtain ⟨h2, rfl⟩ := List.getElem?_eq_some_iff.1 hb
    exact List.pairwise_iff_getElem.1 hp k (k + 1) h1 h2 (by omega)
/-- Leaves that numbers make. -/
def leafM (L : List Int) (k a : Nat) : Lf := ⟨k, 1 + nextV L (nextA L a) 3, decide (nextV L a 3 = 2), decide (nextV L a 3 > 0), markS [120] (vint k)⟩
def mkS (L : List Int) : Nat → List Lf × Nat
  | 0 => ([], nextA L 0)
  | k + 1 => ((mkS L k).1 ++ [leafM L k (mkS L k).2], nextA L (nextA L (mkS L k).2))
def nS (L : List Int) : Nat := 1 + (nextV L 0 16).toNat
def madeS (L : List Int) : List Lf := (mkS L (nS L)).1
theorem mkS_len (L : List Int) : ∀ k, (mkS L k).1.length = k
  | 0 => rfl
  | k + 1 => by show ((mkS L k).1 ++ [_]).length = _; rw [len_snoc, mkS_len L k]
theorem nS_bd (L : List Int) : 1 ≤ nS L ∧ nS L ≤ 16 := by have := nextV_range L 0 16 (by decide); unfold nS; omega
theorem nS_W (L : List Int) : W (1 + nextV L 0 16) = ((nS L : Nat) : Int) := by have := nextV_range L 0 16 (by decide); rw [W_eq (by omega)]; unfold nS; omega
theorem leafM_ok (L : List Int) {k : Nat} (hk : k ≤ 16) (a : Nat) : (leafM L k a).OK := by
  have := nextV_range L (nextA L a) 3 (by decide)
  exact ⟨show I64 (k : Int) from ⟨by omega, by omega⟩, show I64 (1 + nextV L (nextA L a) 3) from ⟨by omega, by omega⟩, (dg_ok _).1, by rw [show (leafM L k a).salt.length = 8 from (dg_ok _).2]; decide⟩
theorem mkS_at (L : List Int) : ∀ (n k : Nat) (x : Lf), (mkS L n).1[k]? = some x → x = leafM L k (mkS L k).2
  | 0, k, x, h => by cases h
  | n + 1, k, x, h => by
    by_cases hk : k < (mkS L n).1.length
    · rw [show (mkS L (n + 1)).1 = (mkS L n).1 ++ [leafM L n (mkS L n).2] from rfl, List.getElem?_append_left hk] at h
      exact mkS_at L n k x h
    · rw [show (mkS L (n + 1)).1 = (mkS L n).1 ++ [leafM L n (mkS L n).2] from rfl, List.getElem?_append_right (by omega)] at h
      have hkn : k = n := by have := mkS_len L n; have := lt_of_at h; simp only [List.length_cons, List.length_nil] at this; omega
      subst hkn
      rw [mkS_len, Nat.sub_self] at h
      injection h with h
      exact h.symm
theorem made_ok (L : List Int) : LvsOK (madeS L) where
  n := by unfold madeS; rw [mkS_len]; exact nS_bd L
  ix k x h := by rw [mkS_at L _ k x h]; rfl
  ok x hx := by
    obtain ⟨k, hk⟩ := List.mem_iff_getElem?.1 hx
    rw [mkS_at L _ k x hk]
    have h1 := lt_of_at hk
    have h2 := nS_bd L
    unfold madeS at h1
    rw [mkS_len] at h1
    exact leafM_ok L (by omega) _
def mcv14 : MC := (.seq (.reg [oN 2 (.mv (.c .nils)) []] false) (.seq (.reg [oN 8 (.mv (.t 0)) [], oN 9 (.build [.nils, (.int .i64 0)] [(0, (1, (.t 8)))]) [0], oN 10 (.box 83 2 (.t 9)) [1], oN 3 (.mv (.t 10)) [2, 0, 1, 2]] false) (.seq (.reg [oN 11 (.mv (.t 3)) [], oN 12 (.call 46 [(.t 11), (.c (.int .i64 16))]) [0], oN 13 (.bin .add (.c (.int .i64 1)) (.t 12)) [1], oN 4 (.mv (.t 13)) [2, 1, 0, 1, 2]] false) (.seq (.reg [oN 5 (.mv (.c .nils)) []] false) (.seq (.seq (.reg [oN 6 (.mv (.c (.int .i64 0))) []] false) (.block 0 (.loop (.seq (.seq (.reg [oN 14 (.mv (.t 6)) [], oN 15 (.mv (.t 4)) [], oN 16 (.bin .lss (.t 14) (.t 15)) [0, 1]] false) (.cond (.t 16) .skip (.exit 0))) (.seq (.block 1 (.seq (.reg [oN 19 (.mv (.t 3)) [], oN 20 (.call 46 [(.t 19), (.c (.int .i64 3))]) [0], oN 7 (.mv (.t 20)) [1, 1, 0, 1]] false) (.reg [oN 21 (.mv (.t 5)) [], oN 22 (.mv (.t 6)) [], oN 23 (.mv (.t 3)) [], oN 24 (.call 46 [(.t 23), (.c (.int .i64 3))]) [2], oN 25 (.bin .add (.c (.int .i64 1)) (.t 24)) [3], oN 26 (.mv (.t 7)) [], oN 27 (.bin .eql (.t 26) (.c (.int .i64 2))) [5], oN 28 (.mv (.t 7)) [], oN 29 (.bin .gtr (.t 28) (.c (.int .i64 0))) [7], oN 30 (.mv (.t 6)) [], oN 31 (.call 38 [(.t 30)]) [9, 3], oN 32 (.call 59 [(.c (.str (strN [120]))), (.t 31)]) [10, 10], oN 33 (.build [(.int .i64 0), (.int .i64 0), (.bool false), (.bool false), (.str (strN []))] [(0, (1, (.t 22))), (1, (1, (.t 25))), (2, (1, (.t 27))), (3, (1, (.t 29))), (4, (1, (.t 32)))]) [1, 4, 6, 8, 11], oN 34 (.bslice 51 5 [(.int .i64 0), (.int .i64 0), (.bool false), (.bool false), (.str (strN []))] 1 [(0, (.t 33))]) [12], oN 35 (.app 51 5 40 [(.int .i64 0), (.int .i64 0), (.bool false), (.bool false), (.str (strN []))] (.t 21) (.t 34)) [0, 13, 11], oN 5 (.mv (.t 35)) [14, 14, 0, 1, 2, 3, 4, 5, 6, 7, 8, 9, 10, 11, 12, 13, 14]] false))) (.reg [oN 17 (.mv (.t 6)) [], oN 18 (.bin .add (.t 17) (.c (.int .i64 1))) [0], oN 6 (.mv (.t 18)) [1, 0, 1]] false)))))) (.seq (.reg [oN 36 (.mv (.t 5)) [], oN 2 (.mv (.t 36)) [0, 0]] false) .ret))))))
theorem mcOkv14 : (match Tryz.f14.body with | some c => compC Tryz.prog 37 c | none => none) = some mcv14 := by kernel_rfl
theorem vc14 (L : List Int) (hL : L.length ≤ 4611686018427387904) : FC Tryz.prog 14 [ints L] [] (.rs 5 ((madeS L).map cLf)) [] false := by
  have hnb := nS_bd L
  refine fc_run (nt := 37) Tryz.func14 rfl rfl mcOkv14 (Nat.le_of_ble_eq_true rfl) ?_
  delta mcv14
  refine aw_seq (aw_reg (rs_mv rfl rfl ?_))
  refine rs_nil fun _ => (th_n (aw_seq (aw_reg (rs_mv rfl rfl ?_))))
  refine rs_build rfl rfl ?_
  refine rs_box rfl rfl rfl rfl rfl rfl ?_
  refine rs_mv rfl rfl ?_
  refine rs_nil fun _ => (th_n (aw_seq (aw_reg (rs_mv rfl rfl ?_))))
  refine rs_callo [(10, drawOb 83 L (0))] rfl rfl (fc35 10 83 L (0) 16 (by decide) hL) (.cons (hv_same rfl) (.cons (hv_same rfl) (.nil))) (.cons rfl (.nil)) rfl rfl rfl ?_
  refine rs_addw rfl rfl rfl (nS_W L) ?_
  refine rs_mv rfl rfl ?_
  refine rs_nil fun _ => (th_n (aw_seq (aw_reg (rs_mv rfl rfl ?_))))
  refine rs_nil fun _ => (th_n (aw_seq (aw_seq (aw_reg (rs_mv rfl rfl ?_)))))
  refine rs_nil fun _ => (th_n (aw_block ?_))
  refine aw_fam (α := Nat) (fun k => nS L - k) (fun k => [(3, .ptr 10 0 0), (4, iv ((nS L : Nat) : Int)), (5, .sl 1005 0 (k)), (6, iv (((k) : Nat) : Int))]) (fun k => [(10, drawOb 83 L (mkS L (k)).2), (1005, .cells 51 5 (((mkS L (k)).1).map cLf) true)]) (fun k => k ≤ nS L) 0 (by omega)
    (show Weak _ _ _ _ [(3, .ptr 10 0 0), (4, iv ((nS L : Nat) : Int)), (5, .sl 1005 0 (0)), (6, iv (((0) : Nat) : Int))] [(10, drawOb 83 L (nextA L 0)), (1005, .cells 51 5 [] true)] from weak_to (.cons rfl sm (.cons rfl sm (.cons rfl (rc_virt rfl rfl) (.cons rfl sm (.nil))))) (.keep (rfl) rfl (.virt rfl (.nil))) (fun i h => by cases h)) ?_
  intro k hk
  refine aw_seq (aw_seq (aw_reg (rs_mv rfl rfl ?_)))
  refine rs_mv rfl rfl ?_
  refine rs_lss rfl rfl rfl ?_
  refine rs_nil fun _ => (th_n (aw_cond rfl (fun h16 => ?_) (fun h16 => ?_)))
  · replace h16 := of_decide_eq_true h16
    refine aw_skip (th_n (aw_seq (aw_block (aw_seq (aw_reg (rs_mv rfl rfl ?_))))))
    have hv3 := nextV_range L (nextA L (mkS L k).2) 3 (by decide)
    refine rs_callo [(10, drawOb 83 L ((mkS L k).2))] rfl rfl (fc35 10 83 L ((mkS L k).2) 3 (by decide) hL) (.cons (hv_same rfl) (.cons (hv_same rfl) (.nil))) (.cons rfl (.nil)) rfl rfl rfl ?_
    refine rs_mv rfl rfl ?_
    refine rs_nil fun _ => (th_n (aw_reg (rs_mv rfl rfl ?_)))
    refine rs_mv rfl rfl ?_
    refine rs_mv rfl rfl ?_
    refine rs_callo [(10, drawOb 83 L (nextA L (mkS L k).2))] rfl rfl (fc35 10 83 L (nextA L (mkS L k).2) 3 (by decide) hL) (.cons (hv_same rfl) (.cons (hv_same rfl) (.nil))) (.cons rfl (.nil)) rfl rfl rfl ?_
    refine rs_add rfl rfl rfl (by omega) ?_
    refine rs_mv rfl rfl ?_
    refine rs_eql rfl rfl rfl ?_
    refine rs_mv rfl rfl ?_
    refine rs_gtr rfl rfl rfl ?_
    refine rs_mv rfl rfl ?_
    refine rs_calln [] rfl rfl (vc38 (k : Int) ⟨by omega, by omega⟩) (.cons (hv_same rfl) (.nil)) rfl ?_
    refine rs_calln [] rfl rfl (vc59 [120] (vint (k : Int)) ⟨b8_c, by decide⟩ ⟨vint_8 _, Nat.le_trans (vint_len _) (by decide)⟩) (.cons (hv_same rfl) (.cons (hv_same rfl) (.nil))) rfl ?_
    refine rs_build rfl rfl ?_
    refine rs_bslice (l := (([leafM L k (mkS L k).2] : List Lf)).flatMap cLf) (els := (([leafM L k (mkS L k).2] : List Lf)).map cLf) (fl := true) rfl (by kernel_rfl) rfl rfl (by kernel_rfl) (by kernel_rfl) ?_
    refine rs_app_m (f := cLf) (xs := (mkS L k).1) (y := leafM L k (mkS L k).2) (fl' := true) rfl rfl rfl rfl (mkS_len L k) rfl rfl rfl (by decide) rfl (by omega) (by omega) rfl ?_
    refine rs_mv rfl rfl ?_
    refine rs_nil fun _ => (in_n (th_n (aw_reg (rs_mv rfl rfl ?_))))
    refine rs_add rfl rfl rfl (by omega) ?_
    refine rs_mv rfl rfl ?_
    refine rs_nil fun _ => (th_n ?_)
    exact ⟨k + 1, by omega, by omega, weak_to_ren (i := 35) (i' := 1005) (F1 := [(3, .ptr 10 0 0), (4, iv ((nS L : Nat) : Int)), (5, .sl 35 0 (k + 1)), (6, iv (((k + 1) : Nat) : Int))]) (H1 := [(10, drawOb 83 L (mkS L (k + 1)).2), (35, .cells 51 5 (((mkS L (k + 1)).1).map cLf) true)]) (.cons rfl sm (.cons rfl sm (.cons rfl sm (.cons rfl sm (.nil))))) (.keep (rfl) rfl (.keep (rfl) rfl (.nil))) (fun i h => by cases h) rfl rfl (.cons rfl (.same _) (.cons rfl (.same _) (.cons rfl (.sl _ _) (.cons rfl (.same _) (.nil))))) (.cons rfl sm (.cons rfl sm (.cons rfl sm (.cons rfl sm (.nil))))) (.keep (rfl) rfl (.keep (rfl) rfl (.nil))) (fun i h => by cases h)⟩
  · replace h16 := of_decide_eq_false h16
    refine aw_exit ?_
    refine th_e ?_
    refine th_e ?_
    refine in_hit ?_
    refine th_n (aw_seq (aw_reg (rs_mv rfl rfl ?_)))
    refine rs_mv rfl rfl ?_
    refine rs_nil fun _ => (th_n (aw_ret ?_))
    obtain rfl : k = nS L := by omega
    exact ret_new rfl (rc_frz (f := cLf) (xs := madeS L) rfl rfl (mkS_len _ _) (fun _ => rfl)) .nil
def mcv21 : MC := (.seq (.reg [oN 4 (.mv (.c .nils)) []] false) (.seq (.reg [oN 5 (.mv (.c .nils)) []] false) (.seq (.seq (.reg [oN 6 (.mv (.c (.int .i64 0))) []] false) (.block 0 (.loop (.seq (.seq (.reg [oN 7 (.mv (.t 6)) [], oN 8 (.mv (.t 1)) [], oN 9 (.bin .lss (.t 7) (.t 8)) [0, 1]] false) (.cond (.t 9) .skip (.exit 0))) (.seq (.block 1 (.seq (.reg [oN 12 (.mv (.t 0)) [], oN 13 (.mv (.t 6)) [], oN 14 (.bin .shr (.t 12) (.t 13)) [0, 1], oN 15 (.bin .and (.t 14) (.c (.int .i64 1))) [2], oN 16 (.bin .eql (.t 15) (.c (.int .i64 1))) [3]] false) (.cond (.t 16) (.reg [oN 17 (.mv (.t 5)) [], oN 18 (.mv (.t 6)) [], oN 19 (.bslice 3 1 [(.int .i64 0)] 1 [(0, (.t 18))]) [1], oN 20 (.app 3 1 8 [(.int .i64 0)] (.t 17) (.t 19)) [0, 2], oN 5 (.mv (.t 20)) [3, 3, 0, 1, 2, 3]] false) .skip))) (.reg [oN 10 (.mv (.t 6)) [], oN 11 (.bin .add (.t 10) (.c (.int .i64 1))) [0], oN 6 (.mv (.t 11)) [1, 0, 1]] false)))))) (.seq (.reg [oN 21 (.mv (.t 5)) [], oN 4 (.mv (.t 21)) [0, 0]] false) .ret))))
theorem mcOkv21 : (match Tryz.f21.body with | some c => compC Tryz.prog 22 c | none => none) = some mcv21 := by kernel_rfl
theorem vc21 (s : Int) (n : Nat) (hn : n ≤ 16) : FC Tryz.prog 21 [iv s, iv (n : Int)] [] (.rs 1 ((someS s n).map civ)) [] false := by
  refine fc_run (nt := 22) Tryz.func21 rfl rfl mcOkv21 (Nat.le_of_ble_eq_true rfl) ?_
  delta mcv21
  refine aw_seq (aw_reg (rs_mv rfl rfl ?_))
  refine rs_nil fun _ => (th_n (aw_seq (aw_reg (rs_mv rfl rfl ?_))))
  refine rs_nil fun _ => (th_n (aw_seq (aw_seq (aw_reg (rs_mv rfl rfl ?_)))))
  refine rs_nil fun _ => (th_n (aw_block ?_))
  refine aw_fam (α := Nat) (fun k => n - k) (fun k => [(0, iv s), (1, iv (n : Int)), (5, .sl 1005 0 (someS s (k)).length), (6, iv (((k) : Nat) : Int))]) (fun k => [(1005, .cells 3 1 ((someS s (k)).map civ) true)]) (fun k => k ≤ n) 0 (by omega)
    (show Weak _ _ _ _ [(0, iv s), (1, iv (n : Int)), (5, .sl 1005 0 0), (6, iv ((0 : Nat) : Int))] [(1005, .cells 3 1 [] true)] from weak_to (.cons rfl sm (.cons rfl sm (.cons rfl (rc_virt rfl rfl) (.cons rfl sm (.nil))))) (.virt rfl (.nil)) (fun i h => by cases h)) ?_
  intro k hk
  refine aw_seq (aw_seq (aw_reg (rs_mv rfl rfl ?_)))
  refine rs_mv rfl rfl ?_
  refine rs_lss rfl rfl rfl ?_
  refine rs_nil fun _ => (th_n (aw_cond rfl (fun h9 => ?_) (fun h9 => ?_)))
  · replace h9 := of_decide_eq_true h9
    refine aw_skip (th_n (aw_seq (aw_block (aw_seq (aw_reg ?_)))))
    have hsl := some_len s k
    refine rs_mv rfl rfl ?_
    refine rs_mv rfl rfl ?_
    refine rs_shr rfl rfl rfl (by omega) rfl ?_
    refine rs_and rfl rfl rfl rfl ?_
    refine rs_eql rfl rfl rfl ?_
    refine rs_nil fun _ => (th_n (aw_cond rfl (fun h16 => ?_) (fun h16 => ?_)))
    · replace h16 := of_decide_eq_true h16
      refine aw_reg (rs_mv rfl rfl ?_)
      refine rs_mv rfl rfl ?_
      refine rs_bslice (l := (([(k : Int)] : List Int)).flatMap civ) (els := (([(k : Int)] : List Int)).map civ) (fl := true) rfl (by kernel_rfl) rfl rfl (by kernel_rfl) (by kernel_rfl) ?_
      refine rs_app_m (f := civ) (xs := someS s k) (y := (k : Int)) (fl' := true) rfl rfl rfl rfl (rfl) rfl rfl rfl (by decide) rfl (by omega) (by omega) rfl ?_
      refine rs_mv rfl rfl ?_
      refine rs_nil fun _ => (in_n (th_n (aw_reg (rs_mv rfl rfl ?_))))
      refine rs_add rfl rfl rfl (by omega) ?_
      refine rs_mv rfl rfl ?_
      refine rs_nil fun _ => (th_n ?_)
      have hb : bitB s k = true := decide_eq_true h16
      have e := some_t hb
      have e2 : (someS s (k + 1)).length = (someS s k).length + 1 := by rw [e, len_snoc]
      exact ⟨k + 1, by omega, by omega, by rw [e2, e]; exact weak_to_ren (i := 20) (i' := 1005) (F1 := [(0, iv s), (1, iv (n : Int)), (5, .sl 20 0 ((someS s k).length + 1)), (6, iv (((k + 1) : Nat) : Int))]) (H1 := [(20, .cells 3 1 ((someS s k ++ [(k : Int)]).map civ) true)]) (.cons rfl sm (.cons rfl sm (.cons rfl sm (.cons rfl sm (.nil))))) (.keep (rfl) rfl (.nil)) (fun i h => by cases h) rfl rfl (.cons rfl (.same _) (.cons rfl (.same _) (.cons rfl (.sl _ _) (.cons rfl (.same _) (.nil))))) (.cons rfl sm (.cons rfl sm (.cons rfl sm (.cons rfl sm (.nil))))) (.keep (rfl) rfl (.nil)) (fun i h => by cases h)⟩
    · replace h16 := of_decide_eq_false h16
      refine aw_skip (in_n (th_n (aw_reg (rs_mv rfl rfl ?_))))
      refine rs_add rfl rfl rfl (by omega) ?_
      refine rs_mv rfl rfl ?_
      refine rs_nil fun _ => (th_n ?_)
      have hb : bitB s k = false := decide_eq_false h16
      have e := some_f hb
      exact ⟨k + 1, by omega, by omega, by rw [e]; exact weak_to (.cons rfl sm (.cons rfl sm (.cons rfl sm (.cons rfl sm (.nil))))) (.keep (rfl) rfl (.nil)) (fun i h => by cases h)⟩
  · replace h9 := of_decide_eq_false h9
    refine aw_exit ?_
    refine th_e ?_
    refine th_e ?_
    refine in_hit ?_
    refine th_n (aw_seq (aw_reg (rs_mv rfl rfl ?_)))
    refine rs_mv rfl rfl ?_
    refine rs_nil fun _ => (th_n (aw_ret ?_))
    obtain rfl : k = n := by omega
    exact ret_new rfl (rc_frz rfl rfl rfl (fun _ => rfl)) .nil
def mcv31 : MC := (.seq (.reg [oN 1 (.box 55 3 (.t 0)) [], oN 2 (.alloc 55 3 [(.int .i64 0), .nils, .nils]) []] false) (.seq (.reg [oN 3 (.fa 0 (.t 1)) [], oN 4 (.ld false 1 (.t 3)) [0], oN 5 (.bslice 51 5 [(.int .i64 0), (.int .i64 0), (.bool false), (.bool false), (.str (strN []))] 0 []) [], oN 6 (.fa 1 (.t 1)) [], oN 7 (.ld false 1 (.t 6)) [3], oN 8 (.app 51 5 40 [(.int .i64 0), (.int .i64 0), (.bool false), (.bool false), (.str (strN []))] (.t 5) (.t 7)) [2, 4], oN 9 (.bslice 9 1 [(.str (strN []))] 0 []) [], oN 10 (.fa 2 (.t 1)) [], oN 11 (.ld false 1 (.t 10)) [7], oN 12 (.app 9 1 16 [(.str (strN []))] (.t 9) (.t 11)) [6, 8, 5], oN 13 (.build [(.int .i64 0), .nils, .nils] [(0, (1, (.t 4))), (1, (1, (.t 8))), (2, (1, (.t 12)))]) [1, 5, 9], ⟨none, (.st 3 (.t 2) (.t 13)), none, [10, 9, 0, 1, 2, 3, 4, 5, 6, 7, 8, 9, 10]⟩] true) .ret))
theorem mcOkv31 : (match Tryz.f31.body with | some c => compC Tryz.prog 14 c | none => none) = some mcv31 := by kernel_rfl
theorem vc31 (z : Int) (lv : List Lf) (hd : List (List Int)) (hlv : lv.length ≤ 64) (hhd : hd.length ≤ 64) : FC Tryz.prog 31 [.agg [.int .i64 z, .rs 5 (lv.map cLf), .rs 1 (hd.map cS)]] [] (.agg [.int .i64 z, .sl 8 0 lv.length, .sl 12 0 hd.length]) [(8, .cells 51 5 (lv.map cLf) true), (12, .cells 9 1 (hd.map cS) true)] false := by
  refine fc_run (nt := 14) Tryz.func31 rfl rfl mcOkv31 (Nat.le_of_ble_eq_true rfl) ?_
  delta mcv31
  refine aw_seq (aw_reg (rs_box rfl rfl rfl rfl rfl rfl ?_))
  refine rs_alloc rfl rfl rfl ?_
  refine rs_nil fun _ => (th_n (aw_seq (aw_draw hmix ?_)))
  refine rs_fa_p rfl rfl ?_
  refine rs_ld_p rfl rfl rfl rfl rfl ?_
  refine rs_bslice (l := []) (els := []) (fl := true) rfl (by kernel_rfl) rfl rfl rfl rfl ?_
  refine rs_fa_p rfl rfl ?_
  refine rs_ld_p rfl rfl rfl rfl rfl ?_
  refine rs_app_e (f := cLf) (ys := lv) (n := lv.length) (rd := []) rfl rfl rfl rfl rfl rfl rfl (by simp) (fun _ => rfl) rfl (by omega) (by omega) (fun _ => rfl) ?_
  refine rs_bslice (l := []) (els := []) (fl := true) rfl (by kernel_rfl) rfl rfl rfl rfl ?_
  refine rs_fa_p rfl rfl ?_
  refine rs_ld_p rfl rfl rfl rfl rfl ?_
  refine rs_app_e (f := cS) (ys := hd) (n := hd.length) (rd := []) rfl rfl rfl rfl rfl rfl rfl (by simp) (fun _ => rfl) rfl (by omega) (by omega) (fun _ => rfl) ?_
  refine rs_build rfl rfl ?_
  refine rs_st rfl rfl rfl rfl rfl rfl rfl (Nat.le_of_ble_eq_true rfl) rfl rfl ?_
  refine rs_nil ⟨by kernel_rfl, fun _ => ?_⟩
  refine th_n (aw_ret ?_)
  exact ret_new rfl (rc_same rfl (.inr rfl)) (.keep rfl rfl (noROE_map (fun _ => rfl) lv) (.keep rfl rfl (noROE_map (fun _ => rfl) hd) .nil))
def mcv34 : MC := (.seq (.reg [oN 4 (.mv (.c (.bool false))) []] false) (.seq (.seq (.reg [oN 6 (.mv (.t 0)) [], oN 7 (.len (.t 6)) [0], oN 8 (.mv (.t 1)) [], oN 9 (.len (.t 8)) [2], oN 10 (.bin .neq (.t 7) (.t 9)) [1, 3]] false) (.cond (.t 10) (.seq (.reg [oN 4 (.mv (.c (.bool false))) []] false) .ret) .skip)) (.seq (.seq (.reg [oN 5 (.mv (.c (.int .i64 0))) []] false) (.block 0 (.loop (.seq (.seq (.reg [oN 11 (.mv (.t 5)) [], oN 12 (.mv (.t 0)) [], oN 13 (.len (.t 12)) [1], oN 14 (.bin .lss (.t 11) (.t 13)) [0, 2]] false) (.cond (.t 14) .skip (.exit 0))) (.seq (.block 1 (.seq (.reg [oN 17 (.mv (.t 0)) [], oN 18 (.mv (.t 5)) [], oN 19 (.ixsl 1 (.t 17) (.t 18)) [0, 1], oN 20 (.ld false 1 (.t 19)) [2], oN 21 (.mv (.t 1)) [], oN 22 (.mv (.t 5)) [], oN 23 (.ixsl 1 (.t 21) (.t 22)) [4, 5], oN 24 (.ld false 1 (.t 23)) [6], oN 25 (.seq true (.t 20) (.t 24)) [3, 7]] true) (.cond (.t 25) (.seq (.reg [oN 4 (.mv (.c (.bool false))) []] false) .ret) .skip))) (.reg [oN 15 (.mv (.t 5)) [], oN 16 (.bin .add (.t 15) (.c (.int .i64 1))) [0], oN 5 (.mv (.t 16)) [1, 0, 1]] false)))))) (.seq (.reg [oN 4 (.mv (.c (.bool true))) []] false) .ret))))
theorem mcOkv34 : (match Tryz.f34.body with | some c => compC Tryz.prog 26 c | none => none) = some mcv34 := by kernel_rfl
theorem vc34 (a b : List (List Int)) (ha : ∀ d ∈ a, B8 d) (hb : ∀ d ∈ b, B8 d) (han : a.length ≤ 4611686018427387904) : FC Tryz.prog 34 [.rs 1 (a.map cS), .rs 1 (b.map cS)] [] (.bool (decide (a = b))) [] false := by
  refine fc_run (nt := 26) Tryz.func34 rfl rfl mcOkv34 (Nat.le_of_ble_eq_true rfl) ?_
  delta mcv34
  refine aw_seq (aw_reg (rs_mv rfl rfl ?_))
  refine rs_nil fun _ => (th_n (aw_seq (aw_seq (aw_reg (rs_mv rfl rfl ?_)))))
  refine rs_len_m rfl rfl ?_
  refine rs_mv rfl rfl ?_
  refine rs_len_m rfl rfl ?_
  refine rs_neq rfl rfl rfl ?_
  refine rs_nil fun _ => (th_n (aw_cond rfl (fun h10 => ?_) (fun h10 => ?_)))
  · replace h10 := of_decide_eq_true h10
    refine aw_seq (aw_reg (rs_mv rfl rfl ?_))
    refine rs_nil fun _ => (th_n (aw_ret (th_r ?_)))
    rw [show decide (a = b) = false from decide_eq_false (fun e => h10 (by rw [e]))]
    exact ret_pure rfl rfl rfl (.inr rfl)
  · replace h10 := of_decide_eq_false h10
    refine aw_skip (th_n (aw_seq (aw_seq (aw_reg (rs_mv rfl rfl ?_)))))
    refine rs_nil fun _ => (th_n (aw_block ?_))
    refine aw_fam (α := Nat) (fun k => a.length - k) (fun k => [(0, .rs 1 (a.map cS)), (1, .rs 1 (b.map cS)), (5, iv (((k) : Nat) : Int))]) (fun k => []) (fun k => k ≤ a.length ∧ a.take k = b.take k) 0 (⟨by omega, rfl⟩)
      (weak_to (.cons rfl sm (.cons rfl sm (.cons rfl sm (.nil)))) (.nil) (fun i h => by cases h)) ?_
    rintro k ⟨hk, hinv⟩
    refine aw_seq (aw_seq (aw_reg (rs_mv rfl rfl ?_)))
    refine rs_mv rfl rfl ?_
    refine rs_len_m rfl rfl ?_
    refine rs_lss rfl rfl rfl ?_
    refine rs_nil fun _ => (th_n (aw_cond rfl (fun h14 => ?_) (fun h14 => ?_)))
    · replace h14 := of_decide_eq_true h14
      refine aw_skip (th_n (aw_seq (aw_block (aw_seq (aw_draw hmix ?_)))))
      obtain ⟨x, hxk, hxm⟩ := at_some (L := a) (k := k) (by omega)
      obtain ⟨y, hyk, hym⟩ := at_some (L := b) (k := k) (by omega)
      refine rs_mv rfl rfl ?_
      refine rs_mv rfl rfl ?_
      refine rs_ix_g (f := cS) (y := x) rfl rfl rfl (by omega) hxk ?_
      refine rs_ld_r rfl rfl rfl ?_
      refine rs_mv rfl rfl ?_
      refine rs_mv rfl rfl ?_
      refine rs_ix_g (f := cS) (y := y) rfl rfl rfl (by omega) hyk ?_
      refine rs_ld_r rfl rfl rfl ?_
      refine rs_seq (r := decide (x ≠ y)) rfl rfl rfl (ha x hxm) (hb y hym) (by by_cases e : x = y <;> simp [e]) ?_
      refine rs_nil ⟨by kernel_rfl, fun _ => ?_⟩
      refine th_n (aw_cond rfl (fun h25 => ?_) (fun h25 => ?_))
      · replace h25 := of_decide_eq_true h25
        refine aw_seq (aw_reg (rs_mv rfl rfl ?_))
        refine rs_nil fun _ => (th_n (aw_ret (in_r (th_r (th_r (in_r (th_r ?_)))))))
        rw [show decide (a = b) = false from decide_eq_false (eq_hit hxk hyk h25)]
        exact ret_pure rfl rfl rfl (.inr rfl)
      · replace h25 := of_decide_eq_false h25
        refine aw_skip (in_n (th_n (aw_reg (rs_mv rfl rfl ?_))))
        refine rs_add rfl rfl rfl (by omega) ?_
        refine rs_mv rfl rfl ?_
        refine rs_nil fun _ => (th_n ?_)
        exact ⟨k + 1, ⟨by omega, eq_step hinv hxk hyk (Decidable.byContradiction h25)⟩, by omega, weak_to (.cons rfl sm (.cons rfl sm (.cons rfl sm (.nil)))) (.nil) (fun i h => by cases h)⟩
    · replace h14 := of_decide_eq_false h14
      refine aw_exit ?_
      refine th_e ?_
      refine th_e ?_
      refine in_hit ?_
      refine th_n (aw_seq (aw_reg (rs_mv rfl rfl ?_)))
      refine rs_nil fun _ => (th_n (aw_ret ?_))
      rw [show decide (a = b) = true from decide_eq_true (eq_end hinv (by omega) (by omega))]
      exact ret_pure rfl rfl rfl (.inr rfl)
def mcv18 : MC := (.seq (.reg [oN 4 (.mv (.c (.bool false))) []] false) (.seq (.seq (.reg [oN 6 (.mv (.t 0)) [], oN 7 (.len (.t 6)) [0], oN 8 (.mv (.t 1)) [], oN 9 (.len (.t 8)) [2], oN 10 (.bin .neq (.t 7) (.t 9)) [1, 3]] false) (.cond (.t 10) (.seq (.reg [oN 4 (.mv (.c (.bool false))) []] false) .ret) .skip)) (.seq (.seq (.reg [oN 5 (.mv (.c (.int .i64 0))) []] false) (.block 0 (.loop (.seq (.seq (.reg [oN 11 (.mv (.t 5)) [], oN 12 (.mv (.t 0)) [], oN 13 (.len (.t 12)) [1], oN 14 (.bin .lss (.t 11) (.t 13)) [0, 2]] false) (.cond (.t 14) .skip (.exit 0))) (.seq (.block 1 (.seq (.reg [oN 17 (.mv (.t 0)) [], oN 18 (.mv (.t 5)) [], oN 19 (.ixsl 5 (.t 17) (.t 18)) [0, 1], oN 20 (.ld true 5 (.t 19)) [2], oN 21 (.mv (.t 1)) [], oN 22 (.mv (.t 5)) [], oN 23 (.ixsl 5 (.t 21) (.t 22)) [4, 5], oN 24 (.ld true 5 (.t 23)) [6], oN 25 (.aeqx true [0, 0, 1, 1, 2] (.t 20) (.t 24)) [3, 7]] true) (.cond (.t 25) (.seq (.reg [oN 4 (.mv (.c (.bool false))) []] false) .ret) .skip))) (.reg [oN 15 (.mv (.t 5)) [], oN 16 (.bin .add (.t 15) (.c (.int .i64 1))) [0], oN 5 (.mv (.t 16)) [1, 0, 1]] false)))))) (.seq (.reg [oN 4 (.mv (.c (.bool true))) []] false) .ret))))
theorem mcOkv18 : (match Tryz.f18.body with | some c => compC Tryz.prog 26 c | none => none) = some mcv18 := by kernel_rfl
theorem vc18 (a b : List Lf) (ha : ∀ d ∈ a, B8 d.salt) (hb : ∀ d ∈ b, B8 d.salt) (han : a.length ≤ 4611686018427387904) : FC Tryz.prog 18 [.rs 5 (a.map cLf), .rs 5 (b.map cLf)] [] (.bool (decide (a = b))) [] false := by
  refine fc_run (nt := 26) Tryz.func18 rfl rfl mcOkv18 (Nat.le_of_ble_eq_true rfl) ?_
  delta mcv18
  refine aw_seq (aw_reg (rs_mv rfl rfl ?_))
  refine rs_nil fun _ => (th_n (aw_seq (aw_seq (aw_reg (rs_mv rfl rfl ?_)))))
  refine rs_len_m rfl rfl ?_
  refine rs_mv rfl rfl ?_
  refine rs_len_m rfl rfl ?_
  refine rs_neq rfl rfl rfl ?_
  refine rs_nil fun _ => (th_n (aw_cond rfl (fun h10 => ?_) (fun h10 => ?_)))
  · replace h10 := of_decide_eq_true h10
    refine aw_seq (aw_reg (rs_mv rfl rfl ?_))
    refine rs_nil fun _ => (th_n (aw_ret (th_r ?_)))
    rw [show decide (a = b) = false from decide_eq_false (fun e => h10 (by rw [e]))]
    exact ret_pure rfl rfl rfl (.inr rfl)
  · replace h10 := of_decide_eq_false h10
    refine aw_skip (th_n (aw_seq (aw_seq (aw_reg (rs_mv rfl rfl ?_)))))
    refine rs_nil fun _ => (th_n (aw_block ?_))
    refine aw_fam (α := Nat) (fun k => a.length - k) (fun k => [(0, .rs 5 (a.map cLf)), (1, .rs 5 (b.map cLf)), (5, iv (((k) : Nat) : Int))]) (fun k => []) (fun k => k ≤ a.length ∧ a.take k = b.take k) 0 (⟨by omega, rfl⟩)
      (weak_to (.cons rfl sm (.cons rfl sm (.cons rfl sm (.nil)))) (.nil) (fun i h => by cases h)) ?_
    rintro k ⟨hk, hinv⟩
    refine aw_seq (aw_seq (aw_reg (rs_mv rfl rfl ?_)))
    refine rs_mv rfl rfl ?_
    refine rs_len_m rfl rfl ?_
    refine rs_lss rfl rfl rfl ?_
    refine rs_nil fun _ => (th_n (aw_cond rfl (fun h14 => ?_) (fun h14 => ?_)))
    · replace h14 := of_decide_eq_true h14
      refine aw_skip (th_n (aw_seq (aw_block (aw_seq (aw_draw hmix ?_)))))
      obtain ⟨x, hxk, hxm⟩ := at_some (L := a) (k := k) (by omega)
      obtain ⟨y, hyk, hym⟩ := at_some (L := b) (k := k) (by omega)
      refine rs_mv rfl rfl ?_
      refine rs_mv rfl rfl ?_
      refine rs_ix_g (f := cLf) (y := x) rfl rfl rfl (by omega) hxk ?_
      refine rs_ld_ra (cs := cLf x) rfl rfl (Nat.le_of_ble_eq_true rfl) rfl ?_
      refine rs_mv rfl rfl ?_
      refine rs_mv rfl rfl ?_
      refine rs_ix_g (f := cLf) (y := y) rfl rfl rfl (by omega) hyk ?_
      refine rs_ld_ra (cs := cLf y) rfl rfl (Nat.le_of_ble_eq_true rfl) rfl ?_
      refine rs_aeqx (scs x) (scs y) rfl rfl rfl rfl rfl rfl rfl (scs_eq (ha x hxm) (hb y hym)) ?_
      refine rs_nil ⟨by kernel_rfl, fun _ => ?_⟩
      refine th_n (aw_cond rfl (fun h25 => ?_) (fun h25 => ?_))
      · replace h25 := of_decide_eq_true h25
        refine aw_seq (aw_reg (rs_mv rfl rfl ?_))
        refine rs_nil fun _ => (th_n (aw_ret (in_r (th_r (th_r (in_r (th_r ?_)))))))
        rw [show decide (a = b) = false from decide_eq_false (eq_hit hxk hyk h25)]
        exact ret_pure rfl rfl rfl (.inr rfl)
      · replace h25 := of_decide_eq_false h25
        refine aw_skip (in_n (th_n (aw_reg (rs_mv rfl rfl ?_))))
        refine rs_add rfl rfl rfl (by omega) ?_
        refine rs_mv rfl rfl ?_
        refine rs_nil fun _ => (th_n ?_)
        exact ⟨k + 1, ⟨by omega, eq_step hinv hxk hyk (Decidable.byContradiction h25)⟩, by omega, weak_to (.cons rfl sm (.cons rfl sm (.cons rfl sm (.nil)))) (.nil) (fun i h => by cases h)⟩
    · replace h14 := of_decide_eq_false h14
      refine aw_exit ?_
      refine th_e ?_
      refine th_e ?_
      refine in_hit ?_
      refine th_n (aw_seq (aw_reg (rs_mv rfl rfl ?_)))
      refine rs_nil fun _ => (th_n (aw_ret ?_))
      rw [show decide (a = b) = true from decide_eq_true (eq_end hinv (by omega) (by omega))]
      exact ret_pure rfl rfl rfl (.inr rfl)
end Go.Proofs.YthfhaoogcpfboaaGreat

/-! Walks: VK. -/
namespace Go.Proofs.YthfhaoogcpfboaaGreat
open Go.RowKit
set_option maxRecDepth 100000
set_option linter.unusedVariables false
def mcv24 : MC := (.seq (.reg [oN 2 (.box 55 3 (.t 0)) [], oN 3 (.box 55 3 (.t 1)) [], oN 4 (.mv (.c (.bool false))) []] false) (.seq (.reg [oN 5 (.fa 0 (.t 2)) [], oN 6 (.ld false 1 (.t 5)) [0], oN 7 (.fa 0 (.t 3)) [], oN 8 (.ld false 1 (.t 7)) [2], oN 9 (.bin .eql (.t 6) (.t 8)) [1, 3], oN 10 (.mv (.t 9)) [4], oG 11 (.fa 1 (.t 2)) 10 true [5], oG 12 (.ld false 1 (.t 11)) 10 true [6, 5], oG 13 (.fa 1 (.t 3)) 10 true [5], oG 14 (.ld false 1 (.t 13)) 10 true [8, 5], oG 15 (.call 18 [(.t 12), (.t 14)]) 10 true [7, 9, 5, 5], oN 16 (.pick (.t 10) (.t 15) (.c (.bool false))) [5, 10], oN 17 (.mv (.t 16)) [11, 10], oG 18 (.fa 2 (.t 2)) 17 true [12], oG 19 (.ld false 1 (.t 18)) 17 true [13, 12], oG 20 (.fa 2 (.t 3)) 17 true [12], oG 21 (.ld false 1 (.t 20)) 17 true [15, 12], oG 22 (.call 34 [(.t 19), (.t 21)]) 17 true [14, 16, 12, 12], oN 23 (.pick (.t 17) (.t 22) (.c (.bool false))) [12, 17], oN 4 (.mv (.t 23)) [18, 17, 0, 1, 2, 3, 4, 5, 6, 7, 8, 9, 10, 11, 12, 13, 14, 15, 16, 17, 18]] false) .ret))
theorem mcOkv24 : (match Tryz.f24.body with | some c => compC Tryz.prog 24 c | none => none) = some mcv24 := by kernel_rfl
theorem vc24 (z : Int) (lv : List Lf) (hd : List (List Int)) (h : ShOK lv hd) (z2 : Int) (lv2 : List Lf) (hd2 : List (List Int)) (h2 : ShOK lv2 hd2) : FC Tryz.prog 24 [.agg [.int .i64 z, .rs 5 (lv.map cLf), .rs 1 (hd.map cS)], .agg [.int .i64 z2, .rs 5 (lv2.map cLf), .rs 1 (hd2.map cS)]] [] (.bool (decide ((⟨z, lv, hd⟩ : Shn) = ⟨z2, lv2, hd2⟩))) [] false := by
  have hnl := h.nl
  have hnh := h.nh
  refine fc_run (nt := 24) Tryz.func24 rfl rfl mcOkv24 (Nat.le_of_ble_eq_true rfl) ?_
  delta mcv24
  refine aw_seq (aw_reg (rs_box rfl rfl rfl rfl rfl rfl ?_))
  refine rs_box rfl rfl rfl rfl rfl rfl ?_
  refine rs_mv rfl rfl ?_
  refine rs_nil fun _ => (th_n (aw_seq (aw_reg (rs_fa_p rfl rfl ?_))))
  refine rs_ld_p rfl rfl rfl rfl rfl ?_
  refine rs_fa_p rfl rfl ?_
  refine rs_ld_p rfl rfl rfl rfl rfl ?_
  refine rs_cmp rfl rfl rfl rfl (fun h9 => ?_) (fun h9 => ?_)
  · skip
    refine rs_mv rfl rfl ?_
    refine rs_fa_p rfl rfl ?_
    refine rs_ld_p rfl rfl rfl rfl rfl ?_
    refine rs_fa_p rfl rfl ?_
    refine rs_ld_p rfl rfl rfl rfl rfl ?_
    refine rs_calln [] rfl rfl (vc18 lv lv2 (fun x hx => (h.ok x hx).b) (fun x hx => (h2.ok x hx).b) (by omega)) (.cons (hv_same rfl) (.cons (hv_same rfl) (.nil))) rfl ?_
    cases h15 : decide (lv = lv2)
    · skip
      refine rs_pick rfl rfl rfl ?_
      refine rs_mv rfl rfl ?_
      refine rs_skip rfl ?_
      refine rs_skip rfl ?_
      refine rs_skip rfl ?_
      refine rs_skip rfl ?_
      refine rs_skip rfl ?_
      refine rs_pick rfl rfl rfl ?_
      refine rs_mv rfl rfl ?_
      refine rs_nil fun _ => (th_n (aw_ret ?_))
      rw [show decide ((⟨z, lv, hd⟩ : Shn) = ⟨z2, lv2, hd2⟩) = false from decide_eq_false (fun e => by injection e with e1 e2 e3; rw [decide_eq_true e2] at h15; cases h15)]
      exact ret_pure rfl rfl rfl (.inr rfl)
    · skip
      refine rs_pick rfl rfl rfl ?_
      refine rs_mv rfl rfl ?_
      refine rs_fa_p rfl rfl ?_
      refine rs_ld_p rfl rfl rfl rfl rfl ?_
      refine rs_fa_p rfl rfl ?_
      refine rs_ld_p rfl rfl rfl rfl rfl ?_
      refine rs_calln [] rfl rfl (vc34 hd hd2 (fun d hd => (h.b d hd).1) (fun d hd => (h2.b d hd).1) (by omega)) (.cons (hv_same rfl) (.cons (hv_same rfl) (.nil))) rfl ?_
      cases h22 : decide (hd = hd2)
      · skip
        refine rs_pick rfl rfl rfl ?_
        refine rs_mv rfl rfl ?_
        refine rs_nil fun _ => (th_n (aw_ret ?_))
        rw [show decide ((⟨z, lv, hd⟩ : Shn) = ⟨z2, lv2, hd2⟩) = false from decide_eq_false (fun e => by injection e with e1 e2 e3; rw [decide_eq_true e3] at h22; cases h22)]
        exact ret_pure rfl rfl rfl (.inr rfl)
      · skip
        refine rs_pick rfl rfl rfl ?_
        refine rs_mv rfl rfl ?_
        refine rs_nil fun _ => (th_n (aw_ret ?_))
        rw [show decide ((⟨z, lv, hd⟩ : Shn) = ⟨z2, lv2, hd2⟩) = true from decide_eq_true (by rw [h9, of_decide_eq_true h15, of_decide_eq_true h22])]
        exact ret_pure rfl rfl rfl (.inr rfl)
  · skip
    refine rs_mv rfl rfl ?_
    refine rs_skip rfl ?_
    refine rs_skip rfl ?_
    refine rs_skip rfl ?_
    refine rs_skip rfl ?_
    refine rs_skip rfl ?_
    refine rs_pick rfl rfl rfl ?_
    refine rs_mv rfl rfl ?_
    refine rs_skip rfl ?_
    refine rs_skip rfl ?_
    refine rs_skip rfl ?_
    refine rs_skip rfl ?_
    refine rs_skip rfl ?_
    refine rs_pick rfl rfl rfl ?_
    refine rs_mv rfl rfl ?_
    refine rs_nil fun _ => (th_n (aw_ret ?_))
    rw [show decide ((⟨z, lv, hd⟩ : Shn) = ⟨z2, lv2, hd2⟩) = false from decide_eq_false (fun e => by injection e with e1 e2 e3; exact h9 e1)]
    exact ret_pure rfl rfl rfl (.inr rfl)
end Go.Proofs.YthfhaoogcpfboaaGreat

/-! Walks: VL. -/
namespace Go.Proofs.YthfhaoogcpfboaaGreat
open Go.RowKit
set_option maxRecDepth 100000
set_option linter.unusedVariables false
structure Pl where
  n : V3
  b : Int
deriving DecidableEq
structure Pt where
  x : Int
  y : Int
  z : Int
  w : Int
deriving DecidableEq
abbrev cPl (p : Pl) : List AV := [.int .i64 p.n.x, .int .i64 p.n.y, .int .i64 p.n.z, .int .i64 p.b]
abbrev cPt (p : Pt) : List AV := [.int .i64 p.x, .int .i64 p.y, .int .i64 p.z, .int .i64 p.w]
abbrev c12 (p q r : Pl) : List AV := [.int .i64 p.n.x, .int .i64 p.n.y, .int .i64 p.n.z, .int .i64 p.b, .int .i64 q.n.x, .int .i64 q.n.y, .int .i64 q.n.z, .int .i64 q.b, .int .i64 r.n.x, .int .i64 r.n.y, .int .i64 r.n.z, .int .i64 r.b]
def timesW (v : V3) (n : Int) : V3 := ⟨W (v.x * n), W (v.y * n), W (v.z * n)⟩
/-- How far a point lies within a half-space. -/
def roomS (p : Pl) (x : Pt) : Int := W (W (p.b * x.w) - dotW p.n ⟨x.x, x.y, x.z⟩)
def outB (x : Pt) (p : Pl) : Bool := decide (roomS p x < 0)
def inB (p : Pl) (x : Pt) : Bool := decide (roomS p x > 0)
def withS (r : List Pl) (x : Pt) : Bool := !r.any (outB x)
/-- The sums on the way to the point of three planes. -/
def sumS (p q r : Pl) : Nat → V3
  | 0 => ⟨0, 0, 0⟩
  | 1 => addW ⟨0, 0, 0⟩ (timesW (crossW q.n r.n) p.b)
  | 2 => addW (addW ⟨0, 0, 0⟩ (timesW (crossW q.n r.n) p.b)) (timesW (crossW r.n p.n) q.b)
  | _ => addW (addW (addW ⟨0, 0, 0⟩ (timesW (crossW q.n r.n) p.b)) (timesW (crossW r.n p.n) q.b)) (timesW (crossW p.n q.n) r.b)
def wdS (p q r : Pl) : Nat → Int
  | 0 => 0
  | 1 => dotW p.n (crossW q.n r.n)
  | 2 => dotW q.n (crossW r.n p.n)
  | _ => dotW r.n (crossW p.n q.n)
def sum3 (p q r : Pl) : V3 := sumS p q r 3
def wd3 (p q r : Pl) : Int := wdS p q r 3
def g3 (p q r : Pl) : Int := if wd3 p q r < 0 then -(gL [(sum3 p q r).x, (sum3 p q r).y, (sum3 p q r).z, wd3 p q r] : Int) else (gL [(sum3 p q r).x, (sum3 p q r).y, (sum3 p q r).z, wd3 p q r] : Int)
/-- The point of three planes. -/
def mtP (p q r : Pl) : Pt := ⟨W ((sum3 p q r).x.tdiv (g3 p q r)), W ((sum3 p q r).y.tdiv (g3 p q r)), W ((sum3 p q r).z.tdiv (g3 p q r)), W ((wd3 p q r).tdiv (g3 p q r))⟩
/-- Numbers that stay small. -/
def okT (p q r : Pl) : Bool := [(sum3 p q r).x, (sum3 p q r).y, (sum3 p q r).z, wd3 p q r].all fun n => decide (-1000000000000000 ≤ n ∧ n ≤ 1000000000000000)
theorem okT_all {p q r : Pl} (h : okT p q r = true) : ∀ x ∈ [(sum3 p q r).x, (sum3 p q r).y, (sum3 p q r).z, wd3 p q r], -1000000000000000 ≤ x ∧ x ≤ 1000000000000000 := fun x hx => of_decide_eq_true (List.all_eq_true.1 h x hx)
theorem gcd_st2 (a b : Int) (h : b ≠ 0) : Nat.gcd b.natAbs (a.tmod b).natAbs = Nat.gcd a.natAbs b.natAbs := by
  rw [Int.natAbs_tmod, Nat.gcd_comm a.natAbs, Nat.gcd_rec b.natAbs a.natAbs, Nat.gcd_comm]
theorem tmod_lt (a b : Int) (h : b ≠ 0) : (a.tmod b).natAbs < b.natAbs := by
  rw [Int.natAbs_tmod]; exact Nat.mod_lt _ (by omega)
theorem gL_pos {l : List Int} {x : Int} (h : x ∈ l) (hx : x ≠ 0) : 0 < gL l := by
  have key : ∀ (l : List Int) (g : Nat), (0 < g ∨ ∃ x ∈ l, x ≠ 0) → 0 < l.foldl (fun g n => Nat.gcd g n.natAbs) g := by
    intro l
    induction l with
    | nil => intro g h; rcases h with h | ⟨x, hx, _⟩; · exact h
             · cases hx
    | cons a l ih =>
      intro g h
      rw [List.foldl_cons]
      refine ih _ ?_
      by_cases ha : a = 0
      · rcases h with h | ⟨x, hx, h0⟩
        · exact .inl (Nat.gcd_pos_of_pos_left _ h)
        · rcases List.mem_cons.1 hx with rfl | hx
          · exact absurd ha h0
          · exact .inr ⟨x, hx, h0⟩
      · exact .inl (Nat.gcd_pos_of_pos_right _ (by omega))
  exact key l 0 (.inr ⟨x, h, hx⟩)
theorem gL_le {l : List Int} {x : Int} {m : Nat} (h : x ∈ l) (hx : x ≠ 0) (hm : x.natAbs ≤ m) : gL l ≤ m := by
  have key : ∀ (l : List Int) (g : Nat), (l.foldl (fun g n => Nat.gcd g n.natAbs) g) ∣ g ∧ ∀ x ∈ l, (l.foldl (fun g n => Nat.gcd g n.natAbs) g) ∣ x.natAbs := by
    intro l
    induction l with
    | nil => intro g; exact ⟨Nat.dvd_refl _, fun x hx => by cases hx⟩
    | cons a l ih =>
      intro g
      obtain ⟨h1, h2⟩ := ih (Nat.gcd g a.natAbs)
      rw [List.foldl_cons]
      refine ⟨Nat.dvd_trans h1 (Nat.gcd_dvd_left _ _), fun x hx => ?_⟩
      rcases List.mem_cons.1 hx with rfl | hx
      · exact Nat.dvd_trans h1 (Nat.gcd_dvd_right _ _)
      · exact h2 x hx
  exact Nat.le_trans (Nat.le_of_dvd (by omega) ((key l 0).2 x h)) hm
def mcv211 : MC := (.seq (.reg [oN 2 (.box 88 3 (.t 0)) [], oN 4 (.alloc 88 3 [(.int .i64 0), (.int .i64 0), (.int .i64 0)]) []] false) (.seq (.reg [oN 5 (.fa 0 (.t 2)) [], oN 6 (.ld false 1 (.t 5)) [0], oN 7 (.mv (.t 1)) [], oN 8 (.bin .mul (.t 6) (.t 7)) [1, 2], oN 9 (.fa 1 (.t 2)) [], oN 10 (.ld false 1 (.t 9)) [4], oN 11 (.mv (.t 1)) [], oN 12 (.bin .mul (.t 10) (.t 11)) [5, 6], oN 13 (.fa 2 (.t 2)) [], oN 14 (.ld false 1 (.t 13)) [8], oN 15 (.mv (.t 1)) [], oN 16 (.bin .mul (.t 14) (.t 15)) [9, 10], oN 17 (.build [(.int .i64 0), (.int .i64 0), (.int .i64 0)] [(0, (1, (.t 8))), (1, (1, (.t 12))), (2, (1, (.t 16)))]) [3, 7, 11], ⟨none, (.st 3 (.t 4) (.t 17)), none, [12, 0, 1, 2, 3, 4, 5, 6, 7, 8, 9, 10, 11, 12]⟩] false) .ret))
theorem mcOkv211 : (match Tryz.f211.body with | some c => compC Tryz.prog 18 c | none => none) = some mcv211 := by kernel_rfl
theorem vc211 (v : V3) (n : Int) : FC Tryz.prog 211 [aV v, iv n] [] (aV (timesW v n)) [] false := by
  refine fc_run (nt := 18) Tryz.func211 rfl rfl mcOkv211 (Nat.le_of_ble_eq_true rfl) ?_
  delta mcv211
  refine aw_seq (aw_reg (rs_box rfl rfl rfl rfl rfl rfl ?_))
  refine rs_alloc rfl rfl rfl ?_
  refine rs_nil fun _ => (th_n (aw_seq (aw_reg (rs_fa_p rfl rfl ?_))))
  refine rs_ld_p rfl rfl rfl rfl rfl ?_
  refine rs_mv rfl rfl ?_
  refine rs_mulw rfl rfl rfl rfl ?_
  refine rs_fa_p rfl rfl ?_
  refine rs_ld_p rfl rfl rfl rfl rfl ?_
  refine rs_mv rfl rfl ?_
  refine rs_mulw rfl rfl rfl rfl ?_
  refine rs_fa_p rfl rfl ?_
  refine rs_ld_p rfl rfl rfl rfl rfl ?_
  refine rs_mv rfl rfl ?_
  refine rs_mulw rfl rfl rfl rfl ?_
  refine rs_build rfl rfl ?_
  refine rs_st rfl rfl rfl rfl rfl rfl rfl (Nat.le_of_ble_eq_true rfl) rfl rfl ?_
  refine rs_nil fun _ => (th_n (aw_ret ?_))
  exact ret_pure rfl rfl rfl (.inr rfl)
def mcv166 : MC := (.seq (.reg [oN 2 (.box 90 4 (.t 0)) [], oN 3 (.box 174 4 (.t 1)) [], oN 4 (.mv (.c (.int .i64 0))) []] false) (.seq (.reg [oN 5 (.fa 3 (.t 2)) [], oN 6 (.ld false 1 (.t 5)) [0], oN 7 (.fa 3 (.t 3)) [], oN 8 (.ld false 1 (.t 7)) [2], oN 9 (.bin .mul (.t 6) (.t 8)) [1, 3], oN 10 (.fa 0 (.t 2)) [], oN 11 (.ld true 3 (.t 10)) [5], oN 12 (.fa 0 (.t 3)) [], oN 13 (.ld false 1 (.t 12)) [7], oN 14 (.fa 1 (.t 3)) [], oN 15 (.ld false 1 (.t 14)) [9], oN 16 (.fa 2 (.t 3)) [], oN 17 (.ld false 1 (.t 16)) [11], oN 18 (.build [(.int .i64 0), (.int .i64 0), (.int .i64 0)] [(0, (1, (.t 13))), (1, (1, (.t 15))), (2, (1, (.t 17)))]) [8, 10, 12], oN 19 (.call 190 [(.t 11), (.t 18)]) [6, 13], oN 20 (.bin .sub (.t 9) (.t 19)) [4, 14], oN 4 (.mv (.t 20)) [15, 14, 0, 1, 2, 3, 4, 5, 6, 7, 8, 9, 10, 11, 12, 13, 14, 15]] true) .ret))
theorem mcOkv166 : (match Tryz.f166.body with | some c => compC Tryz.prog 21 c | none => none) = some mcv166 := by kernel_rfl
theorem vc166 (p : Pl) (x : Pt) : FC Tryz.prog 166 [.agg (cPl p), .agg (cPt x)] [] (iv (roomS p x)) [] false := by
  refine fc_run (nt := 21) Tryz.func166 rfl rfl mcOkv166 (Nat.le_of_ble_eq_true rfl) ?_
  delta mcv166
  refine aw_seq (aw_reg (rs_box rfl rfl rfl rfl rfl rfl ?_))
  refine rs_box rfl rfl rfl rfl rfl rfl ?_
  refine rs_mv rfl rfl ?_
  refine rs_nil fun _ => (th_n (aw_seq (aw_draw hmix ?_)))
  refine rs_fa_p rfl rfl ?_
  refine rs_ld_p rfl rfl rfl rfl rfl ?_
  refine rs_fa_p rfl rfl ?_
  refine rs_ld_p rfl rfl rfl rfl rfl ?_
  refine rs_mulw rfl rfl rfl rfl ?_
  refine rs_fa_p rfl rfl ?_
  refine rs_ld_pa rfl rfl rfl rfl (Nat.le_of_ble_eq_true rfl) rfl ?_
  refine rs_fa_p rfl rfl ?_
  refine rs_ld_p rfl rfl rfl rfl rfl ?_
  refine rs_fa_p rfl rfl ?_
  refine rs_ld_p rfl rfl rfl rfl rfl ?_
  refine rs_fa_p rfl rfl ?_
  refine rs_ld_p rfl rfl rfl rfl rfl ?_
  refine rs_build rfl rfl ?_
  refine rs_calln [] rfl rfl (fc30 p.n ⟨x.x, x.y, x.z⟩) (.cons (hv_same rfl) (.cons (hv_same rfl) (.nil))) rfl ?_
  refine rs_subw rfl rfl rfl rfl ?_
  refine rs_mv rfl rfl ?_
  refine rs_nil ⟨by kernel_rfl, fun _ => ?_⟩
  refine th_n (aw_ret ?_)
  exact ret_pure rfl rfl rfl (.inr rfl)
def mcv213 : MC := (.seq (.reg [oN 2 (.box 90 4 (.t 0)) [], oN 3 (.mv (.c (.bool false))) []] false) (.seq (.reg [oN 4 (.ld true 4 (.t 2)) [], oN 5 (.ld true 4 (.t 1)) [], oN 6 (.call 166 [(.t 4), (.t 5)]) [0, 1], oN 7 (.bin .lss (.t 6) (.c (.int .i64 0))) [2], oN 3 (.mv (.t 7)) [3, 2, 0, 1, 2, 3]] false) .ret))
theorem mcOkv213 : (match Tryz.f213.body with | some c => compC Tryz.prog 8 c | none => none) = some mcv213 := by kernel_rfl
theorem vc213 (x : Pt) (p : Pl) : FC Tryz.prog 213 [.agg (cPl p), .rp (cPt x)] [] (.bool (outB x p)) [] false := by
  refine fc_run (nt := 8) Tryz.func213 rfl rfl mcOkv213 (Nat.le_of_ble_eq_true rfl) ?_
  delta mcv213
  refine aw_seq (aw_reg (rs_box rfl rfl rfl rfl rfl rfl ?_))
  refine rs_mv rfl rfl ?_
  refine rs_nil fun _ => (th_n (aw_seq (aw_reg (rs_ld_pa rfl rfl rfl rfl (Nat.le_of_ble_eq_true rfl) rfl ?_))))
  refine rs_ld_ra rfl rfl (Nat.le_of_ble_eq_true rfl) rfl ?_
  refine rs_calln [] rfl rfl (vc166 p x) (.cons (hv_same rfl) (.cons (hv_same rfl) (.nil))) rfl ?_
  refine rs_lss rfl rfl rfl ?_
  refine rs_mv rfl rfl ?_
  refine rs_nil fun _ => (th_n (aw_ret ?_))
  exact ret_pure rfl rfl rfl (.inr rfl)
def mcv165 : MC := (.seq (.reg [oN 2 (.box 174 4 (.t 0)) [], oN 3 (.mv (.c (.bool false))) []] false) (.seq (.reg [oN 4 (.ld true 4 (.t 1)) [], oN 5 (.ld true 4 (.t 2)) [], oN 6 (.call 166 [(.t 4), (.t 5)]) [0, 1], oN 7 (.bin .gtr (.t 6) (.c (.int .i64 0))) [2], oN 3 (.mv (.t 7)) [3, 2, 0, 1, 2, 3]] false) .ret))
theorem mcOkv165 : (match Tryz.f165.body with | some c => compC Tryz.prog 8 c | none => none) = some mcv165 := by kernel_rfl
theorem vc165 (p : Pl) (x : Pt) : FC Tryz.prog 165 [.agg (cPt x), .rp (cPl p)] [] (.bool (inB p x)) [] false := by
  refine fc_run (nt := 8) Tryz.func165 rfl rfl mcOkv165 (Nat.le_of_ble_eq_true rfl) ?_
  delta mcv165
  refine aw_seq (aw_reg (rs_box rfl rfl rfl rfl rfl rfl ?_))
  refine rs_mv rfl rfl ?_
  refine rs_nil fun _ => (th_n (aw_seq (aw_reg (rs_ld_ra rfl rfl (Nat.le_of_ble_eq_true rfl) rfl ?_))))
  refine rs_ld_pa rfl rfl rfl rfl (Nat.le_of_ble_eq_true rfl) rfl ?_
  refine rs_calln [] rfl rfl (vc166 p x) (.cons (hv_same rfl) (.cons (hv_same rfl) (.nil))) rfl ?_
  refine rs_gtr rfl rfl rfl ?_
  refine rs_mv rfl rfl ?_
  refine rs_nil fun _ => (th_n (aw_ret ?_))
  exact ret_pure rfl rfl rfl (.inr rfl)
def mcv181 : MC := (.seq (.reg [oN 4 (.mv (.c (.int .i64 0))) []] false) (.seq (.seq (.reg [oN 6 (.mv (.t 0)) [], oN 7 (.len (.t 6)) [0], oN 8 (.mv (.c (.int .i64 0))) []] false) (.block 0 (.loop (.seq (.reg [oN 9 (.bin .lss (.t 8) (.t 7)) []] false) (.seq (.cond (.t 9) .skip (.exit 0)) (.seq (.block 1 (.seq (.reg [oN 10 (.mv (.t 8)) [], oN 5 (.mv (.t 10)) [0, 0]] false) (.seq (.reg [oN 11 (.mv (.t 1)) [], oN 12 (.mv (.t 0)) [], oN 13 (.mv (.t 5)) [], oN 14 (.ixsl 4 (.t 12) (.t 13)) [1, 2], oN 15 (.ld true 4 (.t 14)) [3], oN 16 (.callv (.t 11) [(.t 15)]) [0, 4]] false) (.cond (.t 16) (.seq (.reg [oN 17 (.mv (.t 5)) [], oN 4 (.mv (.t 17)) [0, 0]] false) .ret) .skip)))) (.reg [oN 18 (.bin .add (.t 8) (.c (.int .i64 1))) [], oN 8 (.mv (.t 18)) [0]] false))))))) (.seq (.reg [oN 4 (.mv (.c (.int .i64 (-1)))) []] false) .ret)))
theorem mcOkv181 : (match Tryz.f181.body with | some c => compC Tryz.prog 19 c | none => none) = some mcv181 := by kernel_rfl
theorem vcI_outs (x0 : Pt) (xs : List Pl) (hxn : xs.length ≤ 4611686018427387904) : FC Tryz.prog 181 [.rs 4 (xs.map cPl), (.fn (.func 213) [.rp (cPt x0)])] [] (.int .i64 (idxS (outB x0) xs 0)) [] false := by
  refine fc_run (nt := 19) Tryz.func181 rfl rfl mcOkv181 (Nat.le_of_ble_eq_true rfl) ?_
  delta mcv181
  refine aw_seq (aw_reg (rs_mv rfl rfl ?_))
  refine rs_nil fun _ => (th_n (aw_seq (aw_seq (aw_reg (rs_mv rfl rfl ?_)))))
  refine rs_len_m rfl rfl ?_
  refine rs_mv rfl rfl ?_
  refine rs_nil fun _ => (th_n (aw_block ?_))
  refine aw_fam (α := Nat) (fun k => xs.length - k) (fun k => [(0, .rs 4 (xs.map cPl)), (1, (.fn (.func 213) [.rp (cPt x0)])), (6, .rs 4 (xs.map cPl)), (7, iv (xs.length : Int)), (8, iv (((k) : Nat) : Int))]) (fun k => []) (fun k => k ≤ xs.length ∧ idxS (outB x0) (xs.drop k) k = idxS (outB x0) xs 0) 0 (⟨by omega, rfl⟩)
    (weak_to (.cons rfl sm (.cons rfl sm (.cons rfl sm (.cons rfl sm (.cons rfl sm (.nil)))))) (.nil) (fun i h => by cases h)) ?_
  rintro k ⟨hk, hinv⟩
  refine aw_seq (aw_reg (rs_lss rfl rfl rfl ?_))
  refine rs_nil fun _ => (th_n (aw_seq (aw_cond rfl (fun h9 => ?_) (fun h9 => ?_))))
  · replace h9 := of_decide_eq_true h9
    refine aw_skip (th_n (aw_seq (aw_block (aw_seq (aw_reg (rs_mv rfl rfl ?_))))))
    refine rs_mv rfl rfl ?_
    refine rs_nil fun _ => (th_n (aw_seq (aw_reg (rs_mv rfl rfl ?_))))
    refine rs_mv rfl rfl ?_
    refine rs_mv rfl rfl ?_
    obtain ⟨x, hxk, hxm⟩ := at_some (L := xs) (k := k) (by omega)
    rw [idxS_at hxk] at hinv
    
    refine rs_ix_g (f := cPl) (y := x) rfl rfl rfl (by omega) hxk ?_
    refine rs_ld_ra (cs := cPl x) rfl rfl (Nat.le_of_ble_eq_true rfl) rfl ?_
    refine rs_callvo [] rfl rfl (by kernel_rfl) rfl (fc_up (vc213 x0 x)) (.cons (hv_same rfl) (.cons (hv_same rfl) (.nil))) .nil rfl rfl rfl ?_
    cases h16 : (outB x0) x
    · skip
      refine rs_nil fun _ => (th_n (aw_cond rfl (fun h => by cases h) (fun _ => ?_)))
      refine aw_skip (in_n (th_n (aw_reg (rs_add rfl rfl rfl (by omega) ?_))))
      refine rs_mv rfl rfl ?_
      refine rs_nil fun _ => (th_n ?_)
      rw [h16] at hinv
      exact ⟨k + 1, ⟨by omega, hinv⟩, by omega, weak_to (.cons rfl sm (.cons rfl sm (.cons rfl sm (.cons rfl sm (.cons rfl sm (.nil)))))) (.nil) (fun i h => by cases h)⟩
    · skip
      refine rs_nil fun _ => (th_n (aw_cond rfl (fun _ => ?_) (fun h => by cases h)))
      refine aw_seq (aw_reg (rs_mv rfl rfl ?_))
      refine rs_mv rfl rfl ?_
      refine rs_nil fun _ => (th_n (aw_ret (in_r (th_r (th_r (in_r (th_r ?_)))))))
      rw [h16] at hinv
      rw [← hinv]
      exact ret_pure rfl rfl rfl (.inr rfl)
  · replace h9 := of_decide_eq_false h9
    refine aw_exit ?_
    refine th_e ?_
    refine th_e ?_
    refine in_hit ?_
    refine th_n (aw_seq (aw_reg (rs_mv rfl rfl ?_)))
    refine rs_nil fun _ => (th_n (aw_ret ?_))
    rw [idxS_end (by omega)] at hinv
    rw [← hinv]
    exact ret_pure rfl rfl rfl (.inr rfl)
def mcv155 : MC := (.seq (.reg [oN 4 (.mv (.c (.bool false))) []] false) (.seq (.reg [oN 5 (.mv (.t 0)) [], oN 6 (.mv (.t 1)) [], oN 7 (.call 181 [(.t 5), (.t 6)]) [0, 1], oN 8 (.bin .geq (.t 7) (.c (.int .i64 0))) [2], oN 4 (.mv (.t 8)) [3, 2, 0, 1, 2, 3]] false) .ret))
theorem mcOkv155 : (match Tryz.f155.body with | some c => compC Tryz.prog 9 c | none => none) = some mcv155 := by kernel_rfl
theorem vcC_outs (x0 : Pt) (xs : List Pl) (hxn : xs.length ≤ 4611686018427387904) : FC Tryz.prog 155 [.rs 4 (xs.map cPl), (.fn (.func 213) [.rp (cPt x0)])] [] (.bool (xs.any (outB x0))) [] false := by
  refine fc_run (nt := 9) Tryz.func155 rfl rfl mcOkv155 (Nat.le_of_ble_eq_true rfl) ?_
  delta mcv155
  refine aw_seq (aw_reg (rs_mv rfl rfl ?_))
  refine rs_nil fun _ => (th_n (aw_seq (aw_reg (rs_mv rfl rfl ?_))))
  refine rs_mv rfl rfl ?_
  refine rs_calln [] rfl rfl (vcI_outs x0 xs hxn) (.cons (hv_same rfl) (.cons (hv_same rfl) (.nil))) rfl ?_
  refine rs_geq rfl rfl rfl ?_
  refine rs_mv rfl rfl ?_
  refine rs_nil fun _ => (th_n (aw_ret ?_))
  rw [← idxS_cond]
  exact ret_pure rfl rfl rfl (.inr rfl)
def mcv187 : MC := (.seq (.reg [oN 3 (.box 174 4 (.t 1)) [], oN 4 (.mv (.c (.bool false))) []] false) (.seq (.reg [oN 5 (.mv (.t 0)) [], oN 6 (.mkfn (.func 213) [(.t 3)]) [], oN 7 (.call 155 [(.t 5), (.t 6)]) [0, 1], oN 8 (.un .not (.t 7)) [2], oN 4 (.mv (.t 8)) [3, 2, 0, 1, 2, 3]] false) .ret))
theorem mcOkv187 : (match Tryz.f187.body with | some c => compC Tryz.prog 9 c | none => none) = some mcv187 := by kernel_rfl
theorem vc187 (r : List Pl) (x : Pt) (hr : r.length ≤ 1000) : FC Tryz.prog 187 [.rs 4 (r.map cPl), .agg (cPt x)] [] (.bool (withS r x)) [] false := by
  refine fc_run (nt := 9) Tryz.func187 rfl rfl mcOkv187 (Nat.le_of_ble_eq_true rfl) ?_
  delta mcv187
  refine aw_seq (aw_reg (rs_box rfl rfl rfl rfl rfl rfl ?_))
  refine rs_mv rfl rfl ?_
  refine rs_nil fun _ => (th_n (aw_seq (aw_weak (F0 := [(0, .rs 4 (r.map cPl)), (3, .rp (cPt x))]) (H0 := []) (weak_to (.cons rfl sm (.cons rfl (rc_pfrz rfl rfl (.inl rfl)) (.nil))) (.nil) (fun i h => by cases h)) ?_)))
  refine aw_reg (rs_mv rfl rfl ?_)
  refine rs_mkfn rfl rfl ?_
  refine rs_calln [] rfl rfl (vcC_outs x r (by omega)) (.cons (hv_same rfl) (.cons (hv_same rfl) (.nil))) rfl ?_
  refine rs_not rfl rfl ?_
  refine rs_mv rfl rfl ?_
  refine rs_nil fun _ => (th_n (aw_ret ?_))
  exact ret_pure rfl rfl rfl (.inr rfl)
def mcv189 : MC := (.seq (.reg [oN 4 (.mv (.c (.int .i64 0))) []] false) (.seq (.seq (.reg [oN 6 (.mv (.t 0)) [], oN 7 (.len (.t 6)) [0], oN 8 (.mv (.c (.int .i64 0))) []] false) (.block 0 (.loop (.seq (.reg [oN 9 (.bin .lss (.t 8) (.t 7)) []] false) (.seq (.cond (.t 9) .skip (.exit 0)) (.seq (.block 1 (.seq (.reg [oN 10 (.mv (.t 8)) [], oN 5 (.mv (.t 10)) [0, 0]] false) (.seq (.reg [oN 11 (.mv (.t 1)) [], oN 12 (.mv (.t 0)) [], oN 13 (.mv (.t 5)) [], oN 14 (.ixsl 4 (.t 12) (.t 13)) [1, 2], oN 15 (.ld true 4 (.t 14)) [3], oN 16 (.callv (.t 11) [(.t 15)]) [0, 4]] false) (.cond (.t 16) (.seq (.reg [oN 17 (.mv (.t 5)) [], oN 4 (.mv (.t 17)) [0, 0]] false) .ret) .skip)))) (.reg [oN 18 (.bin .add (.t 8) (.c (.int .i64 1))) [], oN 8 (.mv (.t 18)) [0]] false))))))) (.seq (.reg [oN 4 (.mv (.c (.int .i64 (-1)))) []] false) .ret)))
theorem mcOkv189 : (match Tryz.f189.body with | some c => compC Tryz.prog 19 c | none => none) = some mcv189 := by kernel_rfl
theorem vcI_ins (p0 : Pl) (xs : List Pt) (hxn : xs.length ≤ 4611686018427387904) : FC Tryz.prog 189 [.rs 4 (xs.map cPt), (.fn (.func 165) [.rp (cPl p0)])] [] (.int .i64 (idxS (inB p0) xs 0)) [] false := by
  refine fc_run (nt := 19) Tryz.func189 rfl rfl mcOkv189 (Nat.le_of_ble_eq_true rfl) ?_
  delta mcv189
  refine aw_seq (aw_reg (rs_mv rfl rfl ?_))
  refine rs_nil fun _ => (th_n (aw_seq (aw_seq (aw_reg (rs_mv rfl rfl ?_)))))
  refine rs_len_m rfl rfl ?_
  refine rs_mv rfl rfl ?_
  refine rs_nil fun _ => (th_n (aw_block ?_))
  refine aw_fam (α := Nat) (fun k => xs.length - k) (fun k => [(0, .rs 4 (xs.map cPt)), (1, (.fn (.func 165) [.rp (cPl p0)])), (6, .rs 4 (xs.map cPt)), (7, iv (xs.length : Int)), (8, iv (((k) : Nat) : Int))]) (fun k => []) (fun k => k ≤ xs.length ∧ idxS (inB p0) (xs.drop k) k = idxS (inB p0) xs 0) 0 (⟨by omega, rfl⟩)
    (weak_to (.cons rfl sm (.cons rfl sm (.cons rfl sm (.cons rfl sm (.cons rfl sm (.nil)))))) (.nil) (fun i h => by cases h)) ?_
  rintro k ⟨hk, hinv⟩
  refine aw_seq (aw_reg (rs_lss rfl rfl rfl ?_))
  refine rs_nil fun _ => (th_n (aw_seq (aw_cond rfl (fun h9 => ?_) (fun h9 => ?_))))
  · replace h9 := of_decide_eq_true h9
    refine aw_skip (th_n (aw_seq (aw_block (aw_seq (aw_reg (rs_mv rfl rfl ?_))))))
    refine rs_mv rfl rfl ?_
    refine rs_nil fun _ => (th_n (aw_seq (aw_reg (rs_mv rfl rfl ?_))))
    refine rs_mv rfl rfl ?_
    refine rs_mv rfl rfl ?_
    obtain ⟨x, hxk, hxm⟩ := at_some (L := xs) (k := k) (by omega)
    rw [idxS_at hxk] at hinv
    
    refine rs_ix_g (f := cPt) (y := x) rfl rfl rfl (by omega) hxk ?_
    refine rs_ld_ra (cs := cPt x) rfl rfl (Nat.le_of_ble_eq_true rfl) rfl ?_
    refine rs_callvo [] rfl rfl (by kernel_rfl) rfl (fc_up (vc165 p0 x)) (.cons (hv_same rfl) (.cons (hv_same rfl) (.nil))) .nil rfl rfl rfl ?_
    cases h16 : (inB p0) x
    · skip
      refine rs_nil fun _ => (th_n (aw_cond rfl (fun h => by cases h) (fun _ => ?_)))
      refine aw_skip (in_n (th_n (aw_reg (rs_add rfl rfl rfl (by omega) ?_))))
      refine rs_mv rfl rfl ?_
      refine rs_nil fun _ => (th_n ?_)
      rw [h16] at hinv
      exact ⟨k + 1, ⟨by omega, hinv⟩, by omega, weak_to (.cons rfl sm (.cons rfl sm (.cons rfl sm (.cons rfl sm (.cons rfl sm (.nil)))))) (.nil) (fun i h => by cases h)⟩
    · skip
      refine rs_nil fun _ => (th_n (aw_cond rfl (fun _ => ?_) (fun h => by cases h)))
      refine aw_seq (aw_reg (rs_mv rfl rfl ?_))
      refine rs_mv rfl rfl ?_
      refine rs_nil fun _ => (th_n (aw_ret (in_r (th_r (th_r (in_r (th_r ?_)))))))
      rw [h16] at hinv
      rw [← hinv]
      exact ret_pure rfl rfl rfl (.inr rfl)
  · replace h9 := of_decide_eq_false h9
    refine aw_exit ?_
    refine th_e ?_
    refine th_e ?_
    refine in_hit ?_
    refine th_n (aw_seq (aw_reg (rs_mv rfl rfl ?_)))
    refine rs_nil fun _ => (th_n (aw_ret ?_))
    rw [idxS_end (by omega)] at hinv
    rw [← hinv]
    exact ret_pure rfl rfl rfl (.inr rfl)
def mcv164 : MC := (.seq (.reg [oN 4 (.mv (.c (.bool false))) []] false) (.seq (.reg [oN 5 (.mv (.t 0)) [], oN 6 (.mv (.t 1)) [], oN 7 (.call 189 [(.t 5), (.t 6)]) [0, 1], oN 8 (.bin .geq (.t 7) (.c (.int .i64 0))) [2], oN 4 (.mv (.t 8)) [3, 2, 0, 1, 2, 3]] false) .ret))
theorem mcOkv164 : (match Tryz.f164.body with | some c => compC Tryz.prog 9 c | none => none) = some mcv164 := by kernel_rfl
theorem vcC_ins (p0 : Pl) (xs : List Pt) (hxn : xs.length ≤ 4611686018427387904) : FC Tryz.prog 164 [.rs 4 (xs.map cPt), (.fn (.func 165) [.rp (cPl p0)])] [] (.bool (xs.any (inB p0))) [] false := by
  refine fc_run (nt := 9) Tryz.func164 rfl rfl mcOkv164 (Nat.le_of_ble_eq_true rfl) ?_
  delta mcv164
  refine aw_seq (aw_reg (rs_mv rfl rfl ?_))
  refine rs_nil fun _ => (th_n (aw_seq (aw_reg (rs_mv rfl rfl ?_))))
  refine rs_mv rfl rfl ?_
  refine rs_calln [] rfl rfl (vcI_ins p0 xs hxn) (.cons (hv_same rfl) (.cons (hv_same rfl) (.nil))) rfl ?_
  refine rs_geq rfl rfl rfl ?_
  refine rs_mv rfl rfl ?_
  refine rs_nil fun _ => (th_n (aw_ret ?_))
  rw [← idxS_cond]
  exact ret_pure rfl rfl rfl (.inr rfl)
def mcv212 : MC := (.seq (.reg [oN 2 (.mv (.c (.int .i64 0))) []] false) (.seq (.reg [oN 3 (.mv (.c (.int .i64 0))) []] false) (.seq (.seq (.reg [oN 6 (.mv (.t 0)) [], oN 7 (.len (.t 6)) [0], oN 8 (.mv (.c (.int .i64 0))) []] false) (.block 0 (.loop (.seq (.reg [oN 9 (.bin .lss (.t 8) (.t 7)) []] false) (.seq (.cond (.t 9) .skip (.exit 0)) (.seq (.block 1 (.seq (.reg [oN 10 (.ixsl 1 (.t 6) (.t 8)) [], oN 11 (.ld false 1 (.t 10)) [0], oN 5 (.mv (.t 11)) [1, 0, 1]] false) (.block 2 (.loop (.seq (.seq (.reg [oN 12 (.mv (.t 5)) [], oN 13 (.bin .neq (.t 12) (.c (.int .i64 0))) [0]] false) (.cond (.t 13) .skip (.exit 2))) (.block 3 (.reg [oN 14 (.mv (.t 5)) [], oN 15 (.mv (.t 3)) [], oN 16 (.mv (.t 5)) [], oN 17 (.bin .rem (.t 15) (.t 16)) [1, 2], oN 3 (.mv (.t 14)) [0, 0, 1], oN 5 (.mv (.t 17)) [3, 4, 0, 1, 2, 3, 4]] true))))))) (.reg [oN 18 (.bin .add (.t 8) (.c (.int .i64 1))) [], oN 8 (.mv (.t 18)) [0]] false))))))) (.seq (.reg [oN 19 (.mv (.t 3)) [], oN 20 (.mv (.t 3)) [], oN 21 (.un .neg (.t 20)) [1], oN 22 (.mx (.t 19) (.t 21)) [0, 2], oN 2 (.mv (.t 22)) [3, 0, 1, 2, 3]] false) .ret))))
theorem mcOkv212 : (match Tryz.f212.body with | some c => compC Tryz.prog 23 c | none => none) = some mcv212 := by kernel_rfl
theorem vc212 (l : List Int) (hl : ∀ x ∈ l, -1000000000000000 ≤ x ∧ x ≤ 1000000000000000) (hn : l.length ≤ 1000) : FC Tryz.prog 212 [ints l] [] (iv (gL l : Int)) [] false := by
  refine fc_run (nt := 23) Tryz.func212 rfl rfl mcOkv212 (Nat.le_of_ble_eq_true rfl) ?_
  delta mcv212
  refine aw_seq (aw_reg (rs_mv rfl rfl ?_))
  refine rs_nil fun _ => (th_n (aw_seq (aw_reg (rs_mv rfl rfl ?_))))
  refine rs_nil fun _ => (th_n (aw_seq (aw_seq (aw_reg (rs_mv rfl rfl ?_)))))
  refine rs_len_m rfl rfl ?_
  refine rs_mv rfl rfl ?_
  refine rs_nil fun _ => (th_n (aw_block ?_))
  refine aw_fam (α := Nat × Int) (fun s => l.length - s.1) (fun s => [(6, ints l), (7, iv (l.length : Int)), (8, iv (((s.1) : Nat) : Int)), (3, iv (s.2))]) (fun s => []) (fun s => s.1 ≤ l.length ∧ s.2.natAbs = gL (l.take s.1) ∧ (-1000000000000000 ≤ s.2 ∧ s.2 ≤ 1000000000000000)) (0, 0) (⟨by omega, rfl, by omega, by omega⟩)
    (weak_to (.cons rfl sm (.cons rfl sm (.cons rfl sm (.cons rfl sm (.nil))))) (.nil) (fun i h => by cases h)) ?_
  rintro ⟨k, g⟩ ⟨hk, hg, hgb⟩
  dsimp only at hk hg hgb ⊢
  refine aw_seq (aw_reg (rs_lss rfl rfl rfl ?_))
  refine rs_nil fun _ => (th_n (aw_seq (aw_cond rfl (fun h9 => ?_) (fun h9 => ?_))))
  · replace h9 := of_decide_eq_true h9
    refine aw_skip (th_n (aw_seq (aw_block (aw_seq (aw_reg ?_)))))
    obtain ⟨x, hxk, hxm⟩ := at_some (L := l) (k := k) (by omega)
    have hxb := hl x hxm
    refine rs_ix_g (f := ci) (y := x) rfl rfl rfl (by omega) hxk ?_
    refine rs_ld_r rfl rfl rfl ?_
    refine rs_mv rfl rfl ?_
    refine rs_nil fun _ => (th_n (aw_block ?_))
    refine aw_fam (α := Int × Int) (fun u => u.2.natAbs) (fun u => [(6, ints l), (7, iv (l.length : Int)), (8, iv (((k) : Nat) : Int)), (3, iv u.1), (5, iv u.2)]) (fun u => []) (fun u => Nat.gcd u.1.natAbs u.2.natAbs = Nat.gcd g.natAbs x.natAbs ∧ (-1000000000000000 ≤ u.1 ∧ u.1 ≤ 1000000000000000) ∧ (-1000000000000000 ≤ u.2 ∧ u.2 ≤ 1000000000000000)) (g, x) (⟨rfl, hgb, hxb⟩)
      (weak_to (.cons rfl sm (.cons rfl sm (.cons rfl sm (.cons rfl sm (.cons rfl sm (.nil)))))) (.nil) (fun i h => by cases h)) ?_
    rintro ⟨a, b⟩ ⟨hgc, hab, hbb⟩
    dsimp only at hgc hab hbb ⊢
    refine aw_seq (aw_seq (aw_reg (rs_mv rfl rfl ?_)))
    refine rs_neq rfl rfl rfl ?_
    refine rs_nil fun _ => (th_n (aw_cond rfl (fun h13 => ?_) (fun h13 => ?_)))
    · replace h13 := of_decide_eq_true h13
      refine aw_skip (th_n (aw_block ?_))
      skip
      refine aw_draw hmix ?_
      refine rs_mv rfl rfl ?_
      refine rs_mv rfl rfl ?_
      refine rs_mv rfl rfl ?_
      refine rs_rem rfl rfl rfl (by omega) rfl ?_
      refine rs_mv rfl rfl ?_
      refine rs_mv rfl rfl ?_
      refine rs_nil ⟨by kernel_rfl, fun _ => ?_⟩
      refine in_n (th_n ?_)
      have h1 := tmod_lt a b h13
      have h2 := gcd_st2 a b h13
      exact ⟨(b, a.tmod b), ⟨by show Nat.gcd b.natAbs (a.tmod b).natAbs = _; rw [h2, hgc], hbb, by show _ ≤ a.tmod b; omega, by show a.tmod b ≤ _; omega⟩, h1, weak_to (.cons rfl sm (.cons rfl sm (.cons rfl sm (.cons rfl sm (.cons rfl sm (.nil)))))) (.nil) (fun i h => by cases h)⟩
    · replace h13 := of_decide_eq_false h13
      refine aw_exit ?_
      refine th_e ?_
      refine th_e ?_
      refine in_hit ?_
      refine in_n (th_n (aw_reg (rs_add rfl rfl rfl (by omega) ?_)))
      refine rs_mv rfl rfl ?_
      refine rs_nil fun _ => (th_n (⟨(k + 1, a), ⟨by show k + 1 ≤ _; omega, ?_, hab⟩, by show _ - (k + 1) < _; omega, weak_to (.cons rfl sm (.cons rfl sm (.cons rfl sm (.cons rfl sm (.nil))))) (.nil) (fun i h => by cases h)⟩))
      show a.natAbs = gL (l.take (k + 1))
      have hb0 : b = 0 := Decidable.byContradiction h13
      subst hb0
      rw [gL_succ hxk, ← hg, ← hgc]
      simp
  · replace h9 := of_decide_eq_false h9
    refine aw_exit ?_
    refine th_e ?_
    refine th_e ?_
    refine in_hit ?_
    refine th_n (aw_seq ?_)
    have hke : l.take k = l := List.take_of_length_le (by omega)
    rw [hke] at hg
    refine aw_reg (rs_mv rfl rfl ?_)
    refine rs_mv rfl rfl ?_
    refine rs_neg rfl rfl (by omega) ?_
    refine rs_mx (c := (gL l : Int)) rfl rfl rfl (by omega) ?_
    refine rs_mv rfl rfl ?_
    refine rs_nil fun _ => (th_n (aw_ret ?_))
    exact ret_pure rfl rfl rfl (.inr rfl)
end Go.Proofs.YthfhaoogcpfboaaGreat
