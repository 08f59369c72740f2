/-
  Literals, and what makes new objects: alloc, box, slice literals, make.
-/
import Derived.Test.YtadjdnhnbkcakaaL5
namespace Go.Proofs.Ytadjdnhnbkcakaa
open Go.RowKit

/-- A list of values and an array of cells. -/
def CellsR (w : World) (S : Nat → Prop) (ρ : Rho) (A : List AV) (C : Array Value) : Prop :=
  C.size = A.length ∧ ∀ (k : Nat) (v : AV), A[k]? = some v → (C.getD k undef).oneCell' = true ∧ VR w S ρ v (C.getD k undef)

theorem closedL_mem : ∀ {l : List AV} {v : AV}, closedL l = true → v ∈ l → closedV v = true
  | u :: l, v, h, hv => by
    simp only [closedL, Bool.and_eq_true] at h
    rcases List.mem_cons.1 hv with rfl | hv
    · exact h.1
    · exact closedL_mem h.2 hv

theorem VR.closed {w : World} {S : Nat → Prop} {ρ : Rho} {v : AV} {c : Value} (h : VR w S ρ v c) (hc : closedV v = true) : CR w S v c := by
  induction h with
  | cl h => exact h
  | ptr => simp [closedV] at hc
  | sl => simp [closedV] at hc
  | sl0 => simp [closedV] at hc
  | sa => simp [closedV] at hc
  | fn f caps C hn _ ih =>
    simp only [closedV] at hc
    exact .fn f caps C hn fun j v hj => ih j v hj (closedL_mem hc (List.mem_of_getElem? hj))
  | agg cs C hn h1 _ ih =>
    simp only [closedV] at hc
    exact .agg cs C hn h1 fun j v hj => ih j v hj (closedL_mem hc (List.mem_of_getElem? hj))
  | tup cs C hn _ ih =>
    simp only [closedV] at hc
    exact .tup cs C hn fun j v hj => ih j v hj (closedL_mem hc (List.mem_of_getElem? hj))
  | mp => simp [closedV] at hc

theorem cellsR_one {w : World} {S : Nat → Prop} {ρ : Rho} {v : AV} {c : Value} (h : VR w S ρ v c) (h1 : c.oneCell' = true) : CellsR w S ρ [v] c.cells := by
  have e : c.cells = #[c] := by cases c <;> simp_all [Value.cells, Value.oneCell']
  rw [e]
  refine ⟨rfl, fun k u hk => ?_⟩
  cases k with
  | zero => simp at hk; subst hk; exact ⟨h1, h⟩
  | succ k => simp at hk

theorem VR.one {w : World} {S : Nat → Prop} {ρ : Rho} {v : AV} {c : Value} (h : VR w S ρ v c) (hv : acells v = some [v]) (hn : ∀ cs, v ≠ .agg cs) : c.oneCell' = true := by
  cases h with
  | cl h =>
    cases h <;> first | rfl | (simp [acells] at hv; done) | exact absurd rfl (hn _)
  | agg => exact absurd rfl (hn _)
  | tup => simp [acells] at hv
  | _ => rfl

theorem acells_ok {w : World} {S : Nat → Prop} {ρ : Rho} {v : AV} {c : Value} {cs : List AV} (h : VR w S ρ v c) (hv : acells v = some cs) : CellsR w S ρ cs c.cells := by
  by_cases hag : ∃ l, v = .agg l
  · obtain ⟨l, rfl⟩ := hag
    simp [acells] at hv; subst hv
    obtain ⟨C, rfl, hn, h1, h2⟩ := h.agg_inv
    exact ⟨hn, fun k u hk => ⟨h1 k u hk, h2 k u hk⟩⟩
  · have hn : ∀ l, v ≠ .agg l := fun l e => hag ⟨l, e⟩
    have e : cs = [v] := by cases v <;> simp_all [acells]
    subst e
    exact cellsR_one h (h.one hv hn)

theorem length_setAt : ∀ (cs l : List AV) (o : Nat), (setAt l o cs).length = l.length
  | [], l, o => rfl
  | c :: cs, l, o => by simp [setAt, length_setAt cs]

theorem getElem?_setAt : ∀ (cs l : List AV) (o k : Nat), o + cs.length ≤ l.length → (setAt l o cs)[k]? = if o ≤ k ∧ k < o + cs.length then cs[k - o]? else l[k]?
  | [], l, o, k, _ => by simp [setAt]; omega
  | c :: cs, l, o, k, h => by
    simp only [List.length_cons] at h
    simp only [setAt]
    rw [getElem?_setAt cs (l.set o c) (o + 1) k (by simp; omega)]
    by_cases h1 : o + 1 ≤ k ∧ k < o + 1 + cs.length
    · rw [if_pos h1, if_pos (by simp; omega), show k - o = (k - (o + 1)) + 1 by omega]
      simp
    · rw [if_neg h1, List.getElem?_set]
      by_cases h2 : o = k
      · subst h2
        rw [if_pos rfl, if_pos (by omega), if_pos (by simp)]
        simp
      · rw [if_neg h2, if_neg (by simp; omega)]

/-- What the model's stores of one part do. -/
theorem foldl_setAt : ∀ (l : List Value) (s off : Nat) (C : Array Value), off + s + l.length ≤ C.size →
    ((l.zipIdx s).foldl (fun cs (x : Value × Nat) => cs.setIfInBounds (off + x.2) x.1) C).size = C.size ∧
    ∀ k, ((l.zipIdx s).foldl (fun cs (x : Value × Nat) => cs.setIfInBounds (off + x.2) x.1) C)[k]? = if off + s ≤ k ∧ k < off + s + l.length then l[k - (off + s)]? else C[k]?
  | [], s, off, C, _ => by simp; omega
  | c :: l, s, off, C, h => by
    simp only [List.length_cons] at h
    simp only [List.zipIdx_cons, List.foldl_cons]
    obtain ⟨e1, e2⟩ := foldl_setAt l (s + 1) off (C.setIfInBounds (off + s) c) (by simp; omega)
    refine ⟨by rw [e1]; simp, fun k => ?_⟩
    rw [e2 k]
    by_cases h1 : off + (s + 1) ≤ k ∧ k < off + (s + 1) + l.length
    · rw [if_pos h1, if_pos (by simp; omega), show k - (off + s) = (k - (off + (s + 1))) + 1 by omega]
      simp
    · rw [if_neg h1, Array.getElem?_setIfInBounds]
      by_cases h2 : off + s = k
      · subst h2
        rw [if_pos rfl, if_pos (by omega), if_pos (by simp)]
        simp
      · rw [if_neg h2, if_neg (by simp; omega)]

theorem CellsR.at_ {w : World} {S : Nat → Prop} {ρ : Rho} {A : List AV} {C : Array Value} (h : CellsR w S ρ A C) {k : Nat} {v : AV} (hk : A[k]? = some v) :
    ∃ c, C[k]? = some c ∧ c.oneCell' = true ∧ VR w S ρ v c := by
  obtain ⟨h1, h2⟩ := h.2 k v hk
  have hl : k < C.size := by rw [h.1]; exact (List.getElem?_eq_some_iff.1 hk).1
  exact ⟨_, getD_some hl, h1, h2⟩

theorem cellsR_of {w : World} {S : Nat → Prop} {ρ : Rho} {A : List AV} {C : Array Value} (hn : C.size = A.length) (h : ∀ (k : Nat) (v : AV), A[k]? = some v → ∃ c, C[k]? = some c ∧ c.oneCell' = true ∧ VR w S ρ v c) :
    CellsR w S ρ A C := ⟨hn, fun k v hk => by
  obtain ⟨c, hc, h1, h2⟩ := h k v hk
  have e : C.getD k undef = c := by simp [hc]
  rw [e]; exact ⟨h1, h2⟩⟩

theorem cellsR_part {w : World} {S : Nat → Prop} {ρ : Rho} {A cs : List AV} {C : Array Value} {c : Value} (h : CellsR w S ρ A C) (hc : CellsR w S ρ cs c.cells) {off : Nat} (hb : off + cs.length ≤ A.length) :
    CellsR w S ρ (setAt A off cs) (c.cells.zipIdx.foldl (fun x (q : Value × Nat) => x.setIfInBounds (off + q.2) q.1) C) := by
  have hl : c.cells.toList.length = cs.length := by simpa using hc.1
  obtain ⟨e1, e2⟩ := foldl_setAt c.cells.toList 0 off C (by rw [h.1, hl]; omega)
  have e0 : c.cells.zipIdx.foldl (fun x (q : Value × Nat) => x.setIfInBounds (off + q.2) q.1) C = (c.cells.toList.zipIdx 0).foldl (fun x (q : Value × Nat) => x.setIfInBounds (off + q.2) q.1) C := by
    rw [← Array.foldl_toList]
    simp
  rw [e0]
  refine cellsR_of (by rw [e1, length_setAt]; exact h.1) fun k v hk => ?_
  rw [getElem?_setAt cs A off k hb] at hk
  rw [e2 k, hl]
  by_cases h1 : off ≤ k ∧ k < off + cs.length
  · rw [if_pos h1] at hk
    rw [Nat.add_zero, if_pos h1]
    obtain ⟨u, hu, h2, h3⟩ := hc.at_ hk
    exact ⟨u, by simpa using hu, h2, h3⟩
  · rw [if_neg h1] at hk
    rw [Nat.add_zero, if_neg h1]
    exact h.at_ hk

section
variable {P : Program} {o : Oper} {F : List (Nat × AV)} {H : List (Nat × Ob)}

/-- What 'tyZ' has found. -/
theorem tyZ_ok {e : TypeId} {z by_ : Nat} {zero : List AV} (h : tyZ P e = some (z, by_, zero)) : ∃ i zv, P.info? e = some i ∧ i.zero = some zv ∧ i.size = z ∧ i.bytes = by_ ∧ zero.length = z ∧
    zv.cells.size = z ∧ ∀ (w : World) (S : Nat → Prop) (ρ : Rho), CellsR w S ρ zero zv.cells := by
  unfold tyZ at h
  split at h
  · rename_i i hi
    split at h
    · rename_i zv hz
      split at h
      · rename_i x hx
        split at h
        · rename_i cs hcs
          split at h
          · rename_i hl
            simp only [Option.some.injEq, Prod.mk.injEq] at h
            obtain ⟨rfl, rfl, rfl⟩ := h
            exact ⟨i, zv, hi, hz, rfl, rfl, hl.1, hl.2, fun w S ρ => acells_ok (.cl (conv_spec 2 zv x hx)) hcs⟩
          · cases h
        · cases h
      · cases h
    · cases h
  · cases h

theorem tyZ_size {e : TypeId} {z by_ : Nat} {zero : List AV} (h : tyZ P e = some (z, by_, zero)) : sizeP P e = some z := by
  obtain ⟨i, zv, hi, _, hz, _⟩ := tyZ_ok h
  simp [sizeP, hi, hz]

theorem closedL_conv {w : World} {S : Nat → Prop} {ρ : Rho} {A : List AV} {C : Array Value} (h : CellsR w S ρ A C) (hc : closedL A = true) {k : Nat} {v : AV} (hk : A[k]? = some v) :
    CR w S v (C.getD k undef) := (h.2 k v hk).2.closed (closedL_mem hc (List.mem_of_getElem? hk))

/-- An operation that makes one new object. -/
theorem OpT.fresh {ts : List Nat} {d e z : Nat} {els : List (List AV)} {fl : Bool} {v : AV} (hd : get H d = none)
    (h : ∀ (S : Nat → Prop) (ρ : Rho) (a : Act) (w : World), FRs ts F a w S ρ → ∃ (C : Array Value) (cap : Nat) (cv : Value), (execOp a.eval o).run P w = .ok (.value cv) (w.alloc (.cells C e)) ∧
      C.size = cap * z ∧ els.length ≤ cap ∧ cap ≤ maxLen ∧ (∀ (j : Nat) (el : List AV), els[j]? = some el → el.length ≤ z) ∧
      (∀ (j : Nat) (el : List AV) (k : Nat) (u : AV), els[j]? = some el → el[k]? = some u → (C.getD (j * z + k) undef).oneCell' = true ∧ if fl = true then CR w S u (C.getD (j * z + k) undef) else VR w S ρ u (C.getD (j * z + k) undef)) ∧
      ∀ (w' : World) (ρ' : Rho), ρ' d = some (some w.heap.size, z, cap) → VR w' S ρ' v cv) :
    OpT P o ts F H [] [d] v ((d, .cells e z els fl) :: H) := by
  intro S ρ a w Q K hF hS hH hnew hK
  obtain ⟨C, cap, cv, hr, h1, h2, h3, h4, h5, h6⟩ := h S ρ a w hF
  have hρd : ρ d = none := hnew d (by simp) hd
  let ρ' : Rho := fun i => if i = d then some (some w.heap.size, z, cap) else ρ i
  have hρ'd : ρ' d = some (some w.heap.size, z, cap) := by simp [ρ']
  have hρ'o : ∀ i, i ≠ d → ρ' i = ρ i := fun i hi => by simp [ρ', hi]
  have hext : ∀ i x, ρ i = some x → ρ' i = some x := fun i x hx => by
    rw [hρ'o i (fun e => by subst e; rw [hρd] at hx; cases hx)]; exact hx
  have hcell : ∀ (a : Addr) (c : Value), S a.block → w.cell? a = some c → (w.alloc (.cells C e)).cell? a = some c := fun a c hs hc => by
    rw [World.cell?_alloc_lt w _ a (hS _ hs)]; exact hc
  refine .inl ?_
  unfold Oper.wp
  rw [hr]
  refine hK cv _ S ρ' (h6 _ ρ' hρ'd) ⟨fun i ob hi hg => ?_, fun i j oi oj b z1 z2 c1 c2 hi hj hne => ?_⟩ ⟨⟨rfl, rfl, rfl, by simp, fun k hk _ => Below.heap_alloc w _ k hk⟩, fun _ h => h, fun _ h => .inl h, fun b hb => ?_, fun b hb => ?_, fun i hi => ?_⟩
  · have hid : i = d := by simpa using hi
    subst hid
    simp [get] at hg
    subst hg
    refine ⟨some w.heap.size, z, cap, hρ'd, rfl, fun hs => ?_, h3, C, heap_alloc_new w _, h1, h2, h4, fun j el k u hj hk => ?_⟩
    · have := hS _ hs; omega
    · obtain ⟨q1, q2⟩ := h5 j el k u hj hk
      refine ⟨q1, ?_⟩
      by_cases hf : fl = true
      · rw [if_pos hf] at q2 ⊢; exact q2.mono (fun _ h => h) hcell
      · rw [if_neg hf] at q2 ⊢; exact q2.mono (fun _ h => h) hcell hext
  · have e1 : i = d := by simpa using hi
    have e2 : j = d := by simpa using hj
    exact absurd (e1.trans e2.symm) hne
  · have := hS b hb; simp; omega
  · obtain ⟨i, ob, z', cap', hi, _, _, hr'⟩ := hb
    have hid : i = d := by simpa using hi
    subst hid
    rw [hρ'd] at hr'
    simp at hr'
    exact .inr (by omega)
  · exact hρ'o i (fun e => hi ⟨by simp [e], by rw [e]; exact hd⟩)

theorem getD_cells_zero {z k : Nat} (h : 0 * z + k = k := by omega) : 0 * z + k = k := h

theorem opt_alloc {e : TypeId} {z by_ d : Nat} {zero : List AV} (hz : tyZ P e = some (z, by_, zero)) (ho : o.op = .alloc e) (hd : get H d = none) (ts : List Nat) (hcl : closedL zero = true) :
    OpT P o ts F H [] [d] (.ptr d 0 0) ((d, .cells e z [zero] true) :: H) := by
  obtain ⟨i, zv, hi, hzv, hs, _, hzl, hcs, hcr⟩ := tyZ_ok hz
  refine OpT.fresh hd fun S ρ a w hF => ⟨zv.cells, 1, .pointer (some ⟨w.heap.size, 0, none⟩), ?_, by omega, by simp, by unfold maxLen; omega, fun j el hj => ?_, fun j el k u hj hk => ?_, fun w' ρ' h => ?_⟩
  · simp [execOp, ho, Instr.alloc, zeroValue, typeInfo, hi, hzv, newVar, newRow]
  · cases j with
    | zero => simp at hj; subst hj; omega
    | succ j => simp at hj
  · cases j with
    | zero =>
      simp at hj; subst hj
      rw [Nat.zero_mul, Nat.zero_add, if_pos rfl]
      exact ⟨((hcr w S ρ).2 k u hk).1, closedL_conv (hcr w S ρ) hcl hk⟩
    | succ j => simp at hj
  · have q := VR.ptr (w := w') (S := S) (ρ := ρ') d 0 0 w.heap.size z 1 h
    simpa using q

theorem opt_box {e : TypeId} {z d : Nat} {x : Operand} {r : Arg} (hz : sizeP P e = some z) (hx : carg x = some r) (ho : o.op = .box e x) (hd : get H d = none) {v : AV} {cs : List AV}
    (hv : aarg F r = some v) (hcs : acells v = some cs) (hl : cs.length = z) : OpT P o r.slots F H [] [d] (.ptr d 0 0) ((d, .cells e z [cs] (closedL cs)) :: H) := by
  refine OpT.fresh hd fun S ρ a w hF => ?_
  have hvr := carg_ok hx hF (fun _ h => h) hv
  have hc := acells_ok hvr hcs
  refine ⟨(a.eval x).cells, 1, .pointer (some ⟨w.heap.size, 0, none⟩), ?_, by rw [hc.1, hl]; omega, by simp, by unfold maxLen; omega, fun j el hj => ?_, fun j el k u hj hk => ?_, fun w' ρ' h => ?_⟩
  · simp [execOp, ho, Instr.box, newVar, newRow]
  · cases j with
    | zero => simp at hj; subst hj; omega
    | succ j => simp at hj
  · cases j with
    | zero =>
      simp at hj; subst hj
      rw [Nat.zero_mul, Nat.zero_add]
      refine ⟨(hc.2 k u hk).1, ?_⟩
      by_cases hf : closedL cs = true
      · rw [if_pos hf]; exact closedL_conv hc hf hk
      · rw [if_neg hf]; exact (hc.2 k u hk).2
    | succ j => simp at hj
  · have q := VR.ptr (w := w') (S := S) (ρ := ρ') d 0 0 w.heap.size z 1 h
    simpa using q

theorem cellsR_reps {w : World} {S : Nat → Prop} {ρ : Rho} {zero : List AV} {Z : Array Value} (h : CellsR w S ρ zero Z) (hz : zero.length ≠ 0) (n : Nat) :
    CellsR w S ρ (reps n zero) ((Array.range (n * zero.length)).map (Z[· % Z.size]!)) := by
  have hlen : ∀ n, (reps n zero).length = n * zero.length := fun n => by
    induction n with
    | zero => simp [reps]
    | succ n ih => simp [reps, ih, Nat.add_mul]; omega
  have hget : ∀ n k, k < n * zero.length → (reps n zero)[k]? = zero[k % zero.length]? := fun n => by
    induction n with
    | zero => intro k hk; simp at hk
    | succ n ih =>
      intro k hk
      simp only [reps]
      by_cases h1 : k < zero.length
      · rw [List.getElem?_append_left h1, Nat.mod_eq_of_lt h1]
      · rw [List.getElem?_append_right (by omega), ih (k - zero.length) (by rw [Nat.add_mul] at hk; omega)]
        congr 1
        rw [Nat.mod_eq_sub_mod (a := k) (by omega)]
  refine cellsR_of (by simp [hlen]) fun k v hk => ?_
  have hkl : k < n * zero.length := by rw [← hlen]; exact (List.getElem?_eq_some_iff.1 hk).1
  rw [hget n k hkl] at hk
  obtain ⟨c, hc, h1, h2⟩ := h.at_ hk
  refine ⟨c, ?_, h1, h2⟩
  have hm : k % Z.size < Z.size := Nat.mod_lt _ (by rw [h.1]; omega)
  rw [← h.1] at hc
  have e : Z[k % Z.size]! = c := by rw [getElem!_pos Z _ hm]; exact (Array.getElem?_eq_some_iff.1 hc).2
  simp [hkl, e]

theorem fillS_ok {w : World} {S : Nat → Prop} {ρ : Rho} {z : Nat} {ts : List Nat} {a : Act} (hF : FRs ts F a w S ρ) : ∀ (parts : List (Nat × Operand)) (ps : List (Nat × Arg)) (A A' : List AV) (C : Array Value), cpartsS parts = some ps →
    (∀ t, t ∈ aslots (ps.map (·.2)) → t ∈ ts) → CellsR w S ρ A C → fillS F z A ps = some A' →
    ∃ C', Instr.fill (fun i => some (i * z, z)) C (parts.map fun x => (x.1, a.eval x.2)) = some C' ∧ CellsR w S ρ A' C'
  | [], ps, A, A', C, h, _, hc, hf => by
    simp [cpartsS] at h; subst h
    simp [fillS] at hf; subst hf
    exact ⟨C, by simp [Instr.fill], hc⟩
  | (i, x) :: parts, ps, A, A', C, h, hs, hc, hf => by
    simp only [cpartsS] at h
    split at h
    · rename_i r ps' hr hps
      injection h with h; subst h
      simp only [fillS] at hf
      split at hf
      · rename_i v hv
        split at hf
        · rename_i cs hcs
          split at hf
          · rename_i hb
            have hvr := carg_ok hr hF (fun t ht => hs t (by simp [aslots, ht])) hv
            have hcc := acells_ok hvr hcs
            have hcp := cellsR_part hc hcc (off := i * z) (by omega)
            obtain ⟨C', e1, e2⟩ := fillS_ok hF parts ps' _ A' _ hps (fun t ht => hs t (by simp only [List.map_cons, aslots]; exact List.mem_append_right _ ht)) hcp hf
            refine ⟨C', ?_, e2⟩
            have g1 : (a.eval x).cells.size = z := by rw [hcc.1]; exact hb.1
            have g2 : ¬ (i * z + (a.eval x).cells.size > C.size) := by rw [g1, hc.1]; omega
            simp only [List.map_cons, Instr.fill]
            rw [if_neg (by simp [g1]; rw [g1] at g2; omega)]
            exact e1
          · cases hf
        · cases hf
      · cases hf
    · cases h

theorem fillA_ok {w : World} {S : Nat → Prop} {ρ : Rho} {ts : List Nat} {a : Act} (hF : FRs ts F a w S ρ) (place : Nat → Option (Nat × Nat)) (comp : List (Nat × Operand) → Option (List (Nat × Nat × Arg)))
    (h0 : comp [] = some []) (hcomp : ∀ i x l ps, comp ((i, x) :: l) = some ps → ∃ off n r ps', place i = some (off, n) ∧ carg x = some r ∧ comp l = some ps' ∧ ps = (off, n, r) :: ps') :
    ∀ (parts : List (Nat × Operand)) (ps : List (Nat × Nat × Arg)) (A A' : List AV) (C : Array Value), comp parts = some ps →
    (∀ t, t ∈ aslots (ps.map (·.2.2)) → t ∈ ts) → CellsR w S ρ A C → fillA F A ps = some A' →
    ∃ C', Instr.fill place C (parts.map fun x => (x.1, a.eval x.2)) = some C' ∧ CellsR w S ρ A' C'
  | [], ps, A, A', C, h, _, hc, hf => by
    rw [h0] at h; injection h with h; subst h
    simp [fillA] at hf; subst hf
    exact ⟨C, by simp [Instr.fill], hc⟩
  | (i, x) :: parts, ps, A, A', C, h, hs, hc, hf => by
    obtain ⟨off, n, r, ps', hp, hr, hps, rfl⟩ := hcomp i x parts ps h
    simp only [fillA] at hf
    split at hf
    · rename_i v hv
      split at hf
      · rename_i cs hcs
        split at hf
        · rename_i hb
          have hvr := carg_ok hr hF (fun t ht => hs t (by simp [aslots, ht])) hv
          have hcc := acells_ok hvr hcs
          have hcp := cellsR_part hc hcc (off := off) (by omega)
          obtain ⟨C', e1, e2⟩ := fillA_ok hF place comp h0 hcomp parts ps' _ A' _ hps (fun t ht => hs t (by simp only [List.map_cons, aslots]; exact List.mem_append_right _ ht)) hcp hf
          refine ⟨C', ?_, e2⟩
          have g1 : (a.eval x).cells.size = n := by rw [hcc.1]; exact hb.1
          have g2 : ¬ (off + (a.eval x).cells.size > C.size) := by rw [g1, hc.1]; omega
          simp only [List.map_cons, Instr.fill, hp]
          rw [if_neg (by simp [g1]; rw [g1] at g2; omega)]
          exact e1
        · cases hf
      · cases hf
    · cases hf

end
end Go.Proofs.Ytadjdnhnbkcakaa
