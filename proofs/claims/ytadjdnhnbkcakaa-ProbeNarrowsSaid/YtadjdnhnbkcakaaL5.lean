/-
  Loads, addresses of elements, slice expressions, literals of structs and arrays.
-/
import Derived.Test.YtadjdnhnbkcakaaL4
namespace Go.Proofs.Ytadjdnhnbkcakaa
open Go.RowKit

section
variable {P : Program} {o : Oper} {F : List (Nat × AV)} {H : List (Nat × Ob)}

/-- What is known of an own object's cells, where a pointer into it has been seen. -/
theorem own_cells {I : Nat → Prop} {w : World} {S : Nat → Prop} {ρ : Rho} (hH : HRi I w S ρ H) {i e z' : Nat} {els : List (List AV)} {fl : Bool} (hI : I i) (hg : get H i = some (.cells e z' els fl))
    {b z cap : Nat} (hρ : ρ i = some (some b, z, cap)) : z' = z ∧ ¬ S b ∧ cap ≤ maxLen ∧ ∃ C : Array Value, w.heap[b]? = some (.cells C e (0, 0)) ∧ C.size = cap * z ∧ els.length ≤ cap ∧
      (∀ (j : Nat) (el : List AV), els[j]? = some el → el.length ≤ z) ∧
      ∀ (j : Nat) (el : List AV) (k : Nat) (v : AV), els[j]? = some el → el[k]? = some v → w.cell? ⟨b, j * z + k, none⟩ = some (C.getD (j * z + k) undef) ∧ (C.getD (j * z + k) undef).oneCell' = true ∧ VR w S ρ v (C.getD (j * z + k) undef) := by
  obtain ⟨bk, z1, cap1, h1, hz, h2⟩ := hH.ob i _ hI hg
  rw [hρ] at h1
  injection h1 with h1
  obtain ⟨rfl, rfl, rfl⟩ : some b = bk ∧ z = z1 ∧ cap = cap1 := by simpa using h1
  obtain ⟨hs, hm, C, hC, e1, e2, e3, e4⟩ := h2
  refine ⟨hz, hs, hm, C, hC, e1, e2, e3, fun j el k v hj hk => ?_⟩
  obtain ⟨q1, q2⟩ := e4 j el k v hj hk
  have hjl : j < els.length := (List.getElem?_eq_some_iff.1 hj).1
  have hkl : k < el.length := (List.getElem?_eq_some_iff.1 hk).1
  have hel := e3 j el hj
  have hlt : j * z + k < C.size := by
    rw [e1]
    calc j * z + k < j * z + z := by omega
      _ = (j + 1) * z := by rw [Nat.add_mul, Nat.one_mul]
      _ ≤ cap * z := Nat.mul_le_mul_right _ (by omega)
  refine ⟨?_, q1, ?_⟩
  · rw [cell_of_row w b _ C e (0, 0) hC]; exact getD_some hlt
  · by_cases hf : fl = true
    · rw [if_pos hf] at q2; exact .cl q2
    · rw [if_neg hf] at q2; exact q2

theorem run_loadVar_agg {t : TypeId} {n : Nat} (hg : aggP P t = some true) (hz : sizeP P t = some n) (w : World) (a : Addr) (f : Nat → Value) (h : ∀ j, j < n → w.cell? (a.add j) = some (f j)) :
    (loadVar t a).run P w = .ok (.agg ((List.range n).map f).toArray) w := by
  simp [loadVar, run_isAggP hg, run_sizeOfP hz, run_loadCells w a n f h]

theorem run_loadVar_one {t : TypeId} (hg : aggP P t = some false) (w : World) (a : Addr) (v : Value) (h : w.cell? a = some v) : (loadVar t a).run P w = .ok v w := by
  simp [loadVar, run_isAggP hg, h]

theorem getD_map_range {n : Nat} {f : Nat → Value} {j : Nat} (h : j < n) : ((List.range n).map f).toArray.getD j undef = f j := by
  simp [Array.getD, h]

theorem opt_ld {t : TypeId} {n : Nat} {g : Bool} {x : Operand} {r : Arg} (hg : aggP P t = some g) (hz : sizeP P t = some n) (hx : carg x = some r) (ho : o.op = .load t x) {K : AV → List Nat → Prop}
    (h : match aarg F r with
      | some (.ptr i j p) => match get H i with
        | some (.cells _ _ els _) => match els[j]? with
          | some el => if g = true then p + n ≤ el.length ∧ K (.agg ((el.drop p).take n)) [i] else match el[p]? with
            | some v => K v [i]
            | none => False
          | none => False
        | _ => False
      | some (.rp cs) => if g = true then n ≤ cs.length ∧ K (.agg (cs.take n)) [] else match cs[0]? with
        | some v => K v []
        | none => False
      | _ => False) : ∃ v rd, K v rd ∧ OpT P o r.slots F H rd [] v H := by
  split at h
  · rename_i i j p hv
    split at h
    · rename_i e z' els fl hi
      split at h
      · rename_i el hj
        cases g with
        | true =>
          simp only [if_true] at h
          refine ⟨_, _, h.2, OpT.pure fun S ρ a w hF hH => ?_⟩
          obtain ⟨b, z, cap, hρ, e⟩ := (carg_ok hx hF (fun _ h => h) hv).ptr_inv
          obtain ⟨_, _, _, C, _, _, _, _, hc⟩ := own_cells hH (by simp) hi hρ
          have hcell : ∀ k, k < n → w.cell? ((⟨b, j * z + p, none⟩ : Addr).add k) = some (C.getD (j * z + (p + k)) undef) := fun k hk => by
            have hk' : el[p + k]? = some (el[p + k]'(by omega)) := List.getElem?_eq_getElem (by omega)
            rw [add_lit, Nat.add_assoc]
            exact (hc j el (p + k) _ hj hk').1
          refine ⟨.agg ((List.range n).map fun k => C.getD (j * z + (p + k)) undef).toArray, ?_, .agg _ _ (by simp; omega) (fun k v hk => ?_) (fun k v hk => ?_)⟩
          · simp [execOp, ho, e, Instr.loadAt, Instr.sureAddr, run_loadVar_agg hg hz w _ _ hcell]
          all_goals
            have hkn : k < n := by
              have := (List.getElem?_eq_some_iff.1 hk).1
              simp at this; omega
            rw [List.getElem?_take, if_pos hkn, List.getElem?_drop] at hk
            rw [getD_map_range hkn]
          · exact (hc j el (p + k) v hj hk).2.1
          · exact (hc j el (p + k) v hj hk).2.2
        | false =>
          simp only [Bool.false_eq_true, if_false] at h
          split at h
          · rename_i v hp
            refine ⟨_, _, h, OpT.pure fun S ρ a w hF hH => ?_⟩
            obtain ⟨b, z, cap, hρ, e⟩ := (carg_ok hx hF (fun _ h => h) hv).ptr_inv
            obtain ⟨_, _, _, C, _, _, _, _, hc⟩ := own_cells hH (by simp) hi hρ
            obtain ⟨q1, _, q3⟩ := hc j el p v hj hp
            exact ⟨_, by simp [execOp, ho, e, Instr.loadAt, Instr.sureAddr, run_loadVar_one hg w _ _ q1], q3⟩
          · exact h.elim
      · exact h.elim
    · exact h.elim
  · rename_i cs hv
    cases g with
    | true =>
      simp only [if_true] at h
      refine ⟨_, _, h.2, OpT.pure fun S ρ a w hF hH => ?_⟩
      obtain ⟨b, off, cf, e, hS, h1, h2⟩ := (carg_ok hx hF (fun _ h => h) hv).rp_inv
      have hcell : ∀ k, k < n → w.cell? ((⟨b, off, none⟩ : Addr).add k) = some (cf k) := fun k hk => by
        have hk' : cs[k]? = some (cs[k]'(by omega)) := List.getElem?_eq_getElem (by omega)
        rw [add_lit]
        exact (h1 k _ hk').1
      refine ⟨.agg ((List.range n).map cf).toArray, ?_, .cl (.agg _ _ (by simp; omega) (fun k v hk => ?_) (fun k v hk => ?_))⟩
      · simp [execOp, ho, e, Instr.loadAt, Instr.sureAddr, run_loadVar_agg hg hz w _ _ hcell]
      all_goals
        have hkn : k < n := by
          have := (List.getElem?_eq_some_iff.1 hk).1
          simp at this; omega
        rw [List.getElem?_take, if_pos hkn] at hk
        rw [getD_map_range hkn]
      · exact (h1 k v hk).2
      · exact h2 k v hk
    | false =>
      simp only [Bool.false_eq_true, if_false] at h
      split at h
      · rename_i v hp
        refine ⟨_, _, h, OpT.pure fun S ρ a w hF hH => ?_⟩
        obtain ⟨b, off, cf, e, hS, h1, h2⟩ := (carg_ok hx hF (fun _ h => h) hv).rp_inv
        have q := (h1 0 v hp).1
        rw [Nat.add_zero] at q
        exact ⟨_, by simp [execOp, ho, e, Instr.loadAt, Instr.sureAddr, run_loadVar_one hg w _ _ q], .cl (h2 0 v hp)⟩
      · exact h.elim
  · exact h.elim

theorem opt_ixsl {t e : TypeId} {z : Nat} {x i : Operand} {rx ri : Arg} (ht : P.underlying t = some (.slice e)) (hz : sizeP P e = some z) (hx : carg x = some rx) (hi : carg i = some ri)
    (ho : o.op = .indexAddr t x i) {K : AV → List Nat → Prop}
    (h : match aarg F rx, aarg F ri with
      | some (.rs z' els), some (.int _ k) => 0 ≤ k ∧ k < els.length ∧ z' = z ∧ match els[k.toNat]? with
        | some el => K (.rp el) []
        | none => False
      | some (.sl a j n), some (.int _ k) => 0 ≤ k ∧ k < n ∧ match get H a with
        | some (.cells _ z' _ _) => z' = z ∧ K (.ptr a (j + k.toNat) 0) [a]
        | _ => False
      | some (.sa a j p n), some (.int _ k) => 0 ≤ k ∧ k < n ∧ z = 1 ∧ K (.ptr a j (p + k.toNat)) []
      | _, _ => False) : ∃ v rd, K v rd ∧ OpT P o (rx.slots ++ ri.slots) F H rd [] v H := by
  have run : ∀ (a : Act) (w : World) (A : Addr) (n c : Nat) (ik : IntKind) (k : Int), a.eval x = .slice (some A) n c → a.eval i = .int ik k → 0 ≤ k → k < n →
      (execOp a.eval o).run P w = .ok (.value (.pointer (some (A.add (k.toNat * z))))) w := by
    intro a w A n c ik k e1 e2 h0 h1
    simp [execOp, ho, e1, e2, Instr.indexAt, asIntOf, run_underlying ht, h0, h1, run_sizeOfP hz]
  split at h
  · rename_i z' els ik k hv hk
    obtain ⟨k0, k1, rfl, h⟩ := h
    split at h
    · rename_i el hel
      refine ⟨_, _, h, OpT.pure fun S ρ a w hF hH => ?_⟩
      have e2 := (carg_ok hi hF (fun _ h => by simp [h]) hk).int_inv
      rcases (carg_ok hx hF (fun _ h => by simp [h]) hv).rs_inv with ⟨rfl, A, c, e⟩ | ⟨b, off, cap, cf, e, hS, hc, h1, h2⟩
      · simp at hel
      · refine ⟨_, run a w _ _ _ _ _ e e2 k0 k1, ?_⟩
        rw [add_lit]
        exact .cl (.rp el b _ (fun q => cf k.toNat q) hS (fun q v hq => h1 _ el q v hel hq) (fun q v hq => h2 _ el q v hel hq))
    · exact h.elim
  · rename_i a0 j n ik k hv hk
    obtain ⟨k0, k1, h⟩ := h
    split at h
    · rename_i eo z' els fl hob
      obtain ⟨rfl, h⟩ := h
      refine ⟨_, _, h, OpT.pure fun S ρ a w hF hH => ?_⟩
      have e2 := (carg_ok hi hF (fun _ h => by simp [h]) hk).int_inv
      rcases (carg_ok hx hF (fun _ h => by simp [h]) hv).sl_inv with ⟨b, z, cap, cap', hρ, _, _, e⟩ | ⟨z, _, _, rfl, e⟩
      · obtain ⟨rfl, _⟩ := own_cells hH (by simp) hob hρ
        refine ⟨_, run a w _ _ _ _ _ e e2 k0 k1, ?_⟩
        rw [add_lit, ← Nat.add_mul]
        exact .ptr a0 (j + k.toNat) 0 b z' cap hρ
      · simp at k1; omega
    · exact h.elim
  · rename_i a0 j p n ik k hv hk
    obtain ⟨k0, k1, rfl, h⟩ := h
    refine ⟨_, _, h, OpT.pure fun S ρ a w hF hH => ?_⟩
    have e2 := (carg_ok hi hF (fun _ h => by simp [h]) hk).int_inv
    obtain ⟨b, z, cap, cap', hρ, hn, e⟩ := (carg_ok hx hF (fun _ h => by simp [h]) hv).sa_inv
    refine ⟨_, run a w _ _ _ _ _ e e2 k0 k1, ?_⟩
    rw [add_lit, Nat.mul_one, Nat.add_assoc]
    exact .ptr a0 j (p + k.toNat) b z cap hρ
  · exact h.elim

theorem opt_ixarr {t e : TypeId} {len z : Nat} {x i : Operand} {rx ri : Arg} (ht : P.underlying t = some (.array len e)) (hz : sizeP P e = some z) (hx : carg x = some rx) (hi : carg i = some ri)
    (ho : o.op = .indexAddr t x i) {K : AV → Prop}
    (h : match aarg F rx, aarg F ri with
      | some (.ptr a j p), some (.int _ k) => 0 ≤ k ∧ k < len ∧ K (.ptr a j (p + k.toNat * z))
      | some (.rp cs), some (.int _ k) => 0 ≤ k ∧ k < len ∧ K (.rp (cs.drop (k.toNat * z)))
      | _, _ => False) : ∃ v, K v ∧ OpT P o (rx.slots ++ ri.slots) F H [] [] v H := by
  have run : ∀ (a : Act) (w : World) (A : Addr) (ik : IntKind) (k : Int), a.eval x = .pointer (some A) → a.eval i = .int ik k → 0 ≤ k → k < len →
      (execOp a.eval o).run P w = .ok (.value (.pointer (some (A.add (k.toNat * z))))) w := by
    intro a w A ik k e1 e2 h0 h1
    simp [execOp, ho, e1, e2, Instr.indexAt, asIntOf, run_underlying ht, h0, h1, run_sizeOfP hz, Instr.sureAddr]
  split at h
  · rename_i a0 j p ik k hv hk
    obtain ⟨k0, k1, h⟩ := h
    refine ⟨_, h, OpT.pure fun S ρ a w hF hH => ?_⟩
    have e2 := (carg_ok hi hF (fun _ h => by simp [h]) hk).int_inv
    obtain ⟨b, z', cap, hρ, e⟩ := (carg_ok hx hF (fun _ h => by simp [h]) hv).ptr_inv
    refine ⟨_, run a w _ _ _ e e2 k0 k1, ?_⟩
    rw [add_lit, Nat.add_assoc]
    exact .ptr a0 j _ b z' cap hρ
  · rename_i cs ik k hv hk
    obtain ⟨k0, k1, h⟩ := h
    refine ⟨_, h, OpT.pure fun S ρ a w hF hH => ?_⟩
    have e2 := (carg_ok hi hF (fun _ h => by simp [h]) hk).int_inv
    obtain ⟨b, off, cf, e, hS, h1, h2⟩ := (carg_ok hx hF (fun _ h => by simp [h]) hv).rp_inv
    refine ⟨_, run a w _ _ _ e e2 k0 k1, ?_⟩
    rw [add_lit]
    refine .cl (.rp _ b _ (fun q => cf (k.toNat * z + q)) hS (fun q v hq => ?_) (fun q v hq => ?_))
    · rw [List.getElem?_drop] at hq; rw [Nat.add_assoc]; exact h1 _ v hq
    · rw [List.getElem?_drop] at hq; exact h2 _ v hq
  · exact h.elim

theorem copt_ok {x : Option Operand} {r : Option Arg} (hx : copt x = some r) {ts : List Nat} {a : Act} {w : World} {S : Nat → Prop} {ρ : Rho} (hF : FRs ts F a w S ρ)
    (hs : ∀ t, (∃ q, r = some q ∧ t ∈ q.slots) → t ∈ ts) {d n : Int} (hv : abound F d r = some n) : (x.map a.eval = none ∧ n = d) ∨ ∃ k, x.map a.eval = some (.int k n) := by
  cases x with
  | none =>
    simp [copt] at hx; subst hx
    simp [abound] at hv; subst hv
    exact .inl ⟨rfl, rfl⟩
  | some x =>
    simp only [copt] at hx
    split at hx
    · rename_i q hq
      injection hx with hx; subst hx
      simp only [abound] at hv
      split at hv
      · rename_i ik m hm
        injection hv with hv; subst hv
        exact .inr ⟨_, by simp [(carg_ok hq hF (fun t ht => hs t ⟨_, rfl, ht⟩) hm).int_inv]; rfl⟩
      · cases hv
    · cases hx

theorem run_sliceBoundsP (isSlice : Bool) {n cap : Nat} {lo hi : Option Value} {l h : Int} (hlo : (lo = none ∧ l = 0) ∨ ∃ k, lo = some (.int k l)) (hhi : (hi = none ∧ h = n) ∨ ∃ k, hi = some (.int k h))
    (h0 : 0 ≤ l) (h1 : l ≤ h) (h2 : h ≤ cap) (w : World) : (Instr.sliceBounds isSlice n cap lo hi none).run P w = .ok (l.toNat, h.toNat, cap) w := by
  have hh0 : 0 ≤ h := by omega
  have eh : (h.toNat : Int) = h := Int.toNat_of_nonneg (by omega)
  rcases hlo with ⟨rfl, rfl⟩ | ⟨k, rfl⟩ <;> rcases hhi with ⟨rfl, rfl⟩ | ⟨k', rfl⟩ <;>
    simp [Instr.sliceBounds, run_sliceBound, h0, h1, h2, eh, hh0]

def oslots : Option Arg → List Nat
  | none => []
  | some r => r.slots

theorem opt_slc {t e : TypeId} {z : Nat} {x : Operand} {lo hi : Option Operand} {rx : Arg} {rl rh : Option Arg} (ht : P.underlying t = some (.slice e)) (hz : sizeP P e = some z) (hx : carg x = some rx)
    (hlo : copt lo = some rl) (hhi : copt hi = some rh) (ho : o.op = .slice t x lo hi none) {K : AV → List Nat → Prop}
    (h : match aarg F rx with
      | some (.rs z' els) => match abound F 0 rl, abound F els.length rh with
        | some l, some q => (z' = z ∨ els = []) ∧ 0 ≤ l ∧ l ≤ q ∧ q ≤ els.length ∧ K (.rs z ((els.drop l.toNat).take (q.toNat - l.toNat))) []
        | _, _ => False
      | some (.sl i j n) => match abound F 0 rl, abound F n rh, get H i with
        | some l, some q, some (.cells _ z' _ _) => z' = z ∧ 0 ≤ l ∧ (l = 0 ∨ l < q) ∧ l ≤ q ∧ q ≤ n ∧ K (.sl i (j + l.toNat) (q.toNat - l.toNat)) [i]
        | _, _, _ => False
      | some .nils => match abound F 0 rl, abound F 0 rh with
        | some l, some q => l = 0 ∧ q = 0 ∧ K .nils []
        | _, _ => False
      | _ => False) : ∃ v rd, K v rd ∧ OpT P o (rx.slots ++ oslots rl ++ oslots rh) F H rd [] v H := by
  have run : ∀ (a : Act) (w : World) (A : Option Addr) (n c : Nat) (l h : Int), a.eval x = .slice A n c → ((lo.map a.eval = none ∧ l = 0) ∨ ∃ k, lo.map a.eval = some (.int k l)) →
      ((hi.map a.eval = none ∧ h = n) ∨ ∃ k, hi.map a.eval = some (.int k h)) → 0 ≤ l → l ≤ h → h ≤ c →
      (execOp a.eval o).run P w = .ok (.value (.slice (if c = l.toNat then A else A.map (·.add (l.toNat * z))) (h.toNat - l.toNat) (c - l.toNat))) w := by
    intro a w A n c l h e1 e2 e3 h0 h1 h2
    simp [execOp, ho, e1, Instr.sliceAt, run_underlying ht, Instr.slice, run_sliceBoundsP true e2 e3 h0 h1 h2, run_sizeOfP hz]
  have sl : ∀ {a : Act} {w : World} {S : Nat → Prop} {ρ : Rho}, FRs (rx.slots ++ oslots rl ++ oslots rh) F a w S ρ → ∀ {d n}, abound F d rl = some n → (lo.map a.eval = none ∧ n = d) ∨ ∃ k, lo.map a.eval = some (.int k n) :=
    fun hF _ _ hv => copt_ok hlo hF (fun t ⟨q, hq, ht⟩ => by subst hq; simp [oslots, ht]) hv
  have sh : ∀ {a : Act} {w : World} {S : Nat → Prop} {ρ : Rho}, FRs (rx.slots ++ oslots rl ++ oslots rh) F a w S ρ → ∀ {d n}, abound F d rh = some n → (hi.map a.eval = none ∧ n = d) ∨ ∃ k, hi.map a.eval = some (.int k n) :=
    fun hF _ _ hv => copt_ok hhi hF (fun t ⟨q, hq, ht⟩ => by subst hq; simp [oslots, ht]) hv
  split at h
  · rename_i z' els hv
    split at h
    · rename_i l h' hl hh
      obtain ⟨hzz, l0, l1, h2, h⟩ := h
      refine ⟨_, _, h, OpT.pure fun S ρ a w hF hH => ?_⟩
      rcases (carg_ok hx hF (fun _ h => by simp [h]) hv).rs_inv with ⟨rfl, A, c, e1⟩ | ⟨b, off, cap, cf, e1, hS, hc, h3, h4⟩
      · simp at h2
        have hl0 : l = 0 := by omega
        have hh0 : h' = 0 := by omega
        subst hl0 hh0
        refine ⟨_, run a w _ _ _ _ _ e1 (sl hF hl) (sh hF hh) (by omega) (by omega) (by omega), ?_⟩
        simp
        exact .cl (.rs0 _ _ _)
      · refine ⟨_, run a w _ _ _ _ _ e1 (sl hF hl) (sh hF hh) l0 l1 (by omega), ?_⟩
        by_cases hlh : h'.toNat - l.toNat = 0
        · rw [hlh]; simp only [List.take_zero]
          exact .cl (.rs0 _ _ _)
        · have hz' : z' = z := by
            rcases hzz with hzz | hzz
            · exact hzz
            · subst hzz; simp at h2; omega
          subst hz'
          rw [if_neg (by omega)]
          have hlen : ((els.drop l.toNat).take (h'.toNat - l.toNat)).length = h'.toNat - l.toNat := by simp; omega
          have q := CR.rs (w := w) (S := S) z' ((els.drop l.toNat).take (h'.toNat - l.toNat)) b (off + l.toNat * z') (cap - l.toNat) (fun j k => cf (l.toNat + j) k) hS (by omega)
            (fun j el k v hj hk => by
              rw [List.getElem?_take] at hj
              split at hj
              · rw [List.getElem?_drop] at hj
                have := h3 _ el k v hj hk
                rw [show off + l.toNat * z' + j * z' + k = off + (l.toNat + j) * z' + k by rw [Nat.add_mul]; omega]
                exact this
              · cases hj)
            (fun j el k v hj hk => by
              rw [List.getElem?_take] at hj
              split at hj
              · rw [List.getElem?_drop] at hj
                exact h4 _ el k v hj hk
              · cases hj)
          rw [hlen] at q
          simpa [add_lit] using VR.cl (ρ := ρ) q
    · exact h.elim
  · rename_i i j n hv
    split at h
    · rename_i l h' e' z' els fl hl hh hob
      obtain ⟨rfl, l0, l2, l1, h2, h⟩ := h
      refine ⟨_, _, h, OpT.pure fun S ρ a w hF hH => ?_⟩
      rcases (carg_ok hx hF (fun _ h => by simp [h]) hv).sl_inv with ⟨b, z, cap, cap', hρ, hjc, hn, e1⟩ | ⟨z, hρ, rfl, rfl, e1⟩
      · obtain ⟨rfl, _⟩ := own_cells hH (by simp) hob hρ
        refine ⟨_, run a w _ _ _ _ _ e1 (sl hF hl) (sh hF hh) l0 l1 (by omega), ?_⟩
        have q := VR.sl (w := w) (S := S) i (j + l.toNat) (h'.toNat - l.toNat) b z' cap (cap' - l.toNat) hρ (by omega) (by omega)
        by_cases hc : cap' = l.toNat
        · rw [if_pos hc]
          have hl0 : l = 0 := by omega
          subst hl0
          simpa using q
        · rw [if_neg hc]
          simpa [add_lit, Nat.add_mul] using q
      · have hl0 : l = 0 := by simp at h2; omega
        have hh0 : h' = 0 := by simp at h2; omega
        subst hl0 hh0
        refine ⟨_, run a w _ _ _ _ _ e1 (sl hF hl) (sh hF hh) (by omega) (by omega) (by omega), ?_⟩
        simp
        exact .sl0 i z hρ
    · exact h.elim
  · rename_i hv
    split at h
    · rename_i l h' hl hh
      obtain ⟨rfl, rfl, h⟩ := h
      refine ⟨_, _, h, OpT.pure fun S ρ a w hF hH => ?_⟩
      refine ⟨_, run a w _ _ _ _ _ (carg_ok hx hF (fun _ h => by simp [h]) hv).nils_inv (sl hF hl) (sh hF hh) (by omega) (by omega) (by omega), ?_⟩
      simp
      exact .cl .nils
    · exact h.elim
  · exact h.elim

theorem opt_slarr {t e : TypeId} {n : Nat} {x : Operand} {lo hi : Option Operand} {rx : Arg} {rl rh : Option Arg} (ht : P.underlying t = some (.array n e)) (hz : sizeP P e = some 1) (hx : carg x = some rx)
    (hlo : copt lo = some rl) (hhi : copt hi = some rh) (ho : o.op = .slice t x lo hi none) {i j p : Nat} (hv : aarg F rx = some (.ptr i j p)) {l h : Int} (hl : abound F 0 rl = some l) (hh : abound F n rh = some h)
    (l0 : 0 ≤ l) (l2 : l = 0 ∨ l < h) (l1 : l ≤ h) (h2 : h ≤ n) : OpT P o (rx.slots ++ oslots rl ++ oslots rh) F H [] [] (.sa i j (p + l.toNat) (h.toNat - l.toNat)) H :=
  OpT.pure fun S ρ a w hF hH => by
    obtain ⟨b, z, cap, hρ, e1⟩ := (carg_ok hx hF (fun _ h => by simp [h]) hv).ptr_inv
    have sl := copt_ok hlo hF (fun t ⟨q, hq, ht⟩ => by subst hq; simp [oslots, ht]) hl
    have sh := copt_ok hhi hF (fun t ⟨q, hq, ht⟩ => by subst hq; simp [oslots, ht]) hh
    refine ⟨.slice (some (if n = l.toNat then ⟨b, j * z + p, none⟩ else (⟨b, j * z + p, none⟩ : Addr).add (l.toNat * 1))) (h.toNat - l.toNat) (n - l.toNat), ?_, ?_⟩
    · simp [execOp, ho, e1, Instr.sliceAt, run_underlying ht, Instr.sureAddr, run_sliceBoundsP false sl sh l0 l1 h2, run_sizeOfP hz]
    · have q := VR.sa (w := w) (S := S) i j (p + l.toNat) (h.toNat - l.toNat) b z cap (n - l.toNat) hρ (by omega)
      by_cases hc : n = l.toNat
      · have hl0 : l = 0 := by omega
        subst hl0
        simpa [hc] using q
      · rw [if_neg hc, add_lit]
        simpa [Nat.add_assoc] using q

end
end Go.Proofs.Ytadjdnhnbkcakaa
