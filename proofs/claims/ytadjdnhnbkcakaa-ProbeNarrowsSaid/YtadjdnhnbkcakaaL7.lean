/-
  Literals of structs, arrays and slices; make; stores.
-/
import Derived.Test.YtadjdnhnbkcakaaL6
namespace Go.Proofs.Ytadjdnhnbkcakaa
open Go.RowKit

section
variable {P : Program} {o : Oper} {F : List (Nat × AV)} {H : List (Nat × Ob)}

theorem run_places (w : World) : ∀ (l : List Field), (∀ f ∈ l, (sizeP P f.type).isSome = true) → (l.mapM fun f => Prod.mk f.offset <$> sizeOf f.type : Sem (List (Nat × Nat))).run P w =
    .ok (l.map fun f => (f.offset, (sizeP P f.type).getD 0)) w
  | [], _ => by simp
  | f :: l, hl => by
    obtain ⟨m, hm⟩ := Option.isSome_iff_exists.1 (hl f (by simp))
    have := run_places w l fun g hg => hl g (by simp [hg])
    simp [run_sizeOfP hm, hm, this]

theorem opt_build_struct {t : TypeId} {fields : Array Field} {n by_ : Nat} {zero cs : List AV} {parts : Array (Nat × Operand)} {ps : List (Nat × Nat × Arg)} (ht : P.underlying t = some (.struct fields))
    (hz : tyZ P t = some (n, by_, zero)) (hp : cparts P fields parts.toList = some ps) (hall : fields.toList.all (fun f => (sizeP P f.type).isSome) = true) (ho : o.op = .build t parts) (hf : fillA F zero ps = some cs) :
    OpT P o (aslots (ps.map (·.2.2))) F H [] [] (.agg cs) H := by
  obtain ⟨i, zv, hi, hzv, _, _, _, _, hcr⟩ := tyZ_ok hz
  refine OpT.pure fun S ρ a w hF _ => ?_
  have hpl := run_places (P := P) w fields.toList (fun f hf => (List.all_eq_true.1 hall) f hf)
  obtain ⟨C', e1, e2⟩ := fillA_ok hF (fun i => ((fields.toList.map fun f => (f.offset, (sizeP P f.type).getD 0)).toArray)[i]?) (cparts P fields) rfl
    (fun i x l ps h => by
      simp only [cparts] at h
      split at h
      · rename_i f r ps' h1 h2 h3
        split at h
        · rename_i m hm
          injection h with h
          exact ⟨f.offset, m, r, ps', by simp [h1, hm], h2, h3, h.symm⟩
        · cases h
      · cases h) parts.toList ps zero cs zv.cells hp (fun _ h => h) (hcr w S ρ) hf
  refine ⟨.agg C', ?_, .agg cs C' e2.1 (fun j v h => (e2.2 j v h).1) fun j v h => (e2.2 j v h).2⟩
  have e3 : (parts.map fun x => (x.1, a.eval x.2)).toList = parts.toList.map fun x => (x.1, a.eval x.2) := by simp
  simp [execOp, ho, Instr.build, zeroValue, typeInfo, hi, hzv, run_underlying ht, Array.mapM_eq_mapM_toList, hpl]
  simp at e1
  rw [e1]
  simp

theorem opt_build_array {t e : TypeId} {len n m by_ : Nat} {zero cs : List AV} {parts : Array (Nat × Operand)} {ps : List (Nat × Nat × Arg)} (ht : P.underlying t = some (.array len e))
    (hz : tyZ P t = some (n, by_, zero)) (hm : sizeP P e = some m) (hp : cpartsA m parts.toList = some ps) (ho : o.op = .build t parts) (hf : fillA F zero ps = some cs) :
    OpT P o (aslots (ps.map (·.2.2))) F H [] [] (.agg cs) H := by
  obtain ⟨i, zv, hi, hzv, _, _, _, _, hcr⟩ := tyZ_ok hz
  refine OpT.pure fun S ρ a w hF _ => ?_
  obtain ⟨C', e1, e2⟩ := fillA_ok hF (fun i => some (i * m, m)) (cpartsA m) rfl
    (fun i x l ps h => by
      simp only [cpartsA] at h
      split at h
      · rename_i r ps' h2 h3
        injection h with h
        exact ⟨i * m, m, r, ps', rfl, h2, h3, h.symm⟩
      · cases h) parts.toList ps zero cs zv.cells hp (fun _ h => h) (hcr w S ρ) hf
  refine ⟨.agg C', ?_, .agg cs C' e2.1 (fun j v h => (e2.2 j v h).1) fun j v h => (e2.2 j v h).2⟩
  simp [execOp, ho, Instr.build, zeroValue, typeInfo, hi, hzv, run_underlying ht, run_sizeOfP hm]
  rw [e1]
  simp

theorem length_chunks (z : Nat) : ∀ (n : Nat) (l : List AV), (chunks z n l).length = n
  | 0, _ => rfl
  | n + 1, l => by simp [chunks, length_chunks z n]

theorem getElem?_chunks (z : Nat) : ∀ (n : Nat) (l : List AV) (j : Nat), (chunks z n l)[j]? = if j < n then some ((l.drop (j * z)).take z) else none
  | 0, l, j => by simp [chunks]
  | n + 1, l, j => by
    cases j with
    | zero => simp [chunks]
    | succ j =>
      simp only [chunks, List.getElem?_cons_succ, getElem?_chunks z n, List.drop_drop, Nat.add_lt_add_iff_right]
      rw [show z + j * z = (j + 1) * z by rw [Nat.add_mul]; omega]

theorem length_reps (l : List AV) : ∀ n, (reps n l).length = n * l.length
  | 0 => by simp [reps]
  | n + 1 => by simp [reps, length_reps l n, Nat.add_mul]; omega

theorem length_fillS {F : List (Nat × AV)} {z : Nat} : ∀ (ps : List (Nat × Arg)) (A A' : List AV), fillS F z A ps = some A' → A'.length = A.length
  | [], A, A', h => by simp [fillS] at h; subst h; rfl
  | (i, x) :: ps, A, A', h => by
    simp only [fillS] at h
    split at h
    · split at h
      · split at h
        · rw [length_fillS ps _ _ h, length_setAt]
        · cases h
      · cases h
    · cases h

theorem opt_bslice {t e : TypeId} {z by_ len d : Nat} {zero l : List AV} {parts : Array (Nat × Operand)} {ps : List (Nat × Arg)} (ht : P.underlying t = some (.slice e)) (hz : tyZ P e = some (z, by_, zero))
    (hp : cpartsS parts.toList = some ps) (hl : len * z ≤ 2 ^ 24) (hz0 : z ≠ 0) (hlen : len ≤ 4096) (ho : o.op = .buildSlice t len parts) (hd : get H d = none) (hf : fillS F z (reps len zero) ps = some l) :
    OpT P o (aslots (ps.map (·.2))) F H [] [d] (.sl d 0 len) ((d, .cells e z (chunks z len l) (closedL l)) :: H) := by
  obtain ⟨i, zv, hi, hzv, hs, _, hzl, hcs, hcr⟩ := tyZ_ok hz
  refine OpT.fresh hd fun S ρ a w hF => ?_
  have h0 : CellsR w S ρ (reps len zero) ((Array.range (len * z)).map (zv.cells[· % zv.cells.size]!)) := by
    have := cellsR_reps (hcr w S ρ) (by omega) len
    rwa [hzl] at this
  obtain ⟨C', e1, e2⟩ := fillS_ok hF parts.toList ps _ l _ hp (fun _ h => h) h0 hf
  have hll : l.length = len * z := by rw [length_fillS ps _ _ hf, length_reps, hzl]
  refine ⟨C', len, .slice (some ⟨w.heap.size, 0, none⟩) len len, ?_, by rw [e2.1, hll], by rw [length_chunks]; exact Nat.le_refl _, by unfold maxLen; omega, fun j el hj => ?_, fun j el k u hj hk => ?_, fun w' ρ' h => ?_⟩
  · have hne : ¬ (len * z > 2 ^ 24) := by omega
    by_cases hl0 : len * z = 0
    · have hlz : len = 0 := by rcases Nat.mul_eq_zero.1 hl0 with h | h; exact h; exact absurd h hz0
      subst hlz
      have e0 : ∀ f : Nat → Value, (Array.range 0).map f = #[] := fun _ => by simp [Array.range_zero']
      rw [Nat.zero_mul, e0] at e1
      simp [execOp, ho, Instr.buildSlice, run_underlying ht, run_sizeOfP (tyZ_size hz), newRow]
      rw [e0, e1]
      simp
    · simp [execOp, ho, Instr.buildSlice, run_underlying ht, run_sizeOfP (tyZ_size hz), hl0, zeroValue, typeInfo, hi, hzv, newRow]
      rw [if_neg (by omega)]
      rw [e1]
      simp
  · rw [getElem?_chunks] at hj
    split at hj
    · injection hj with hj; subst hj; simp; omega
    · cases hj
  · rw [getElem?_chunks] at hj
    split at hj
    · injection hj with hj; subst hj
      have hkz : k < z := by
        have := (List.getElem?_eq_some_iff.1 hk).1
        simp at this; omega
      rw [List.getElem?_take, if_pos hkz, List.getElem?_drop] at hk
      refine ⟨(e2.2 _ u hk).1, ?_⟩
      by_cases hcl : closedL l = true
      · rw [if_pos hcl]; exact closedL_conv e2 hcl hk
      · rw [if_neg hcl]; exact (e2.2 _ u hk).2
    · cases hj
  · have q := VR.sl (w := w') (S := S) (ρ := ρ') d 0 len w.heap.size z len len h (by omega) (Nat.le_refl _)
    simpa using q

theorem opt_mksl {t e : TypeId} {z by_ d : Nat} {zero : List AV} {l c : Operand} {rl rc : Arg} (ht : P.underlying t = some (.slice e)) (hz : tyZ P e = some (z, by_, zero)) (hz0 : z ≠ 0)
    (hl : carg l = some rl) (hc : carg c = some rc) (ho : o.op = .makeSlice t l c) (hd : get H d = none) (hcl : closedL zero = true) {n : Int} (h1 : aarg F rl = some (.int .i64 n)) (h2 : aarg F rc = some (.int .i64 n))
    (h0 : 0 ≤ n) (h63 : n ≤ 9223372036854775807) (hb : (by_ : Int) * n ≤ 281474976710656) :
    OpT P o (rl.slots ++ rc.slots) F H [] [d] (.sl d 0 n.toNat) ((d, .cells e z (List.replicate n.toNat zero) true) :: H) := by
  obtain ⟨i, zv, hi, hzv, hs, hby, hzl, hcs, hcr⟩ := tyZ_ok hz
  obtain ⟨m, rfl⟩ := Int.eq_ofNat_of_zero_le h0
  refine OpT.fresh hd fun S ρ a w hF => ?_
  have e1 := (carg_ok hl hF (fun _ h => by simp [h]) h1).int_inv
  have e2 := (carg_ok hc hF (fun _ h => by simp [h]) h2).int_inv
  have hrun := run_make (P := P) w t e i zv ht hi hzv .i64 .i64 (m : Int) (m : Int) (by omega) (by omega) (by rw [hby]; omega) (by omega)
  have hR := cellsR_reps (hcr w S ρ) (by omega) m
  rw [hzl] at hR
  refine ⟨madeCells zv.cells (m * z), m, .slice (some ⟨w.heap.size, 0, none⟩) m m, ?_, by simp [size_madeCells], by simp, by unfold maxLen; omega, fun j el hj => ?_, fun j el k u hj hk => ?_, fun w' ρ' h => ?_⟩
  · simp only [Int.toNat_natCast, hs] at hrun
    simp [execOp, ho, e1, e2, hrun]
  · rw [List.getElem?_replicate] at hj
    split at hj
    · injection hj with hj; subst hj; omega
    · cases hj
  · rw [List.getElem?_replicate] at hj
    split at hj
    · rename_i hjm
      injection hj with hj; subst hj
      have hkz : k < z := by have := (List.getElem?_eq_some_iff.1 hk).1; omega
      have hlt : j * z + k < m * z := by
        calc j * z + k < j * z + z := by omega
          _ = (j + 1) * z := by rw [Nat.add_mul, Nat.one_mul]
          _ ≤ m * z := Nat.mul_le_mul_right _ (by simp at hjm; omega)
      have hmod : (j * z + k) % z = k := by rw [Nat.mul_comm, Nat.mul_add_mod, Nat.mod_eq_of_lt hkz]
      have hcell : (madeCells zv.cells (m * z)).getD (j * z + k) undef = zv.cells.getD k undef := by
        have hk' : k < zv.cells.size := by omega
        have e1 : (madeCells zv.cells (m * z))[j * z + k]? = some (zv.cells[k]'hk') := by
          unfold madeCells
          have e : zv.cells[(j * z + k) % zv.cells.size]! = zv.cells[k]'hk' := by
            rw [hcs, hmod]; exact getElem!_pos zv.cells k hk'
          simp [hlt, e]
        simp [e1, hk']
      rw [hcell, if_pos rfl]
      exact ⟨((hcr w S ρ).2 k u hk).1, closedL_conv (hcr w S ρ) hcl hk⟩
    · cases hj
  · have q := VR.sl (w := w') (S := S) (ρ := ρ') d 0 m w.heap.size z m m h (by omega) (Nat.le_refl _)
    simpa using q

end
end Go.Proofs.Ytadjdnhnbkcakaa
