/-
  Stores, copy, append.
-/
import Derived.Test.YtadjdnhnbkcakaaL7
namespace Go.Proofs.Ytadjdnhnbkcakaa
open Go.RowKit

theorem window {j j' z k p n : Nat} (hk : k < z) (hp : p + n ≤ z) (hne : j' ≠ j) : ¬ (j * z + p ≤ j' * z + k ∧ j' * z + k < j * z + p + n) := by
  rcases Nat.lt_or_gt_of_ne hne with h | h
  · have : (j' + 1) * z ≤ j * z := Nat.mul_le_mul_right _ h
    rw [Nat.add_mul, Nat.one_mul] at this; omega
  · have : (j + 1) * z ≤ j' * z := Nat.mul_le_mul_right _ h
    rw [Nat.add_mul, Nat.one_mul] at this; omega

theorem splice_get (C : Array Value) (off : Nat) (vs : List Value) (h : off + vs.length ≤ C.size) :
    ((C.toList.take off ++ vs ++ C.toList.drop (off + vs.length)).toArray).size = C.size ∧
    ∀ k : Nat, ((C.toList.take off ++ vs ++ C.toList.drop (off + vs.length)).toArray)[k]? = if off ≤ k ∧ k < off + vs.length then vs[k - off]? else C[k]? := by
  refine ⟨by simp; omega, fun k => ?_⟩
  have hl1 : (C.toList.take off).length = off := by simp; omega
  simp only [List.getElem?_toArray]
  by_cases h1 : k < off
  · rw [List.append_assoc, List.getElem?_append_left (by omega), List.getElem?_take, if_pos h1, if_neg (by omega)]
    simp
  · by_cases h2 : k < off + vs.length
    · rw [List.append_assoc, List.getElem?_append_right (by omega), List.getElem?_append_left (by omega), if_pos (by omega), hl1]
    · rw [List.getElem?_append_right (by simp; omega), if_neg (by omega), List.getElem?_drop]
      simp only [List.length_append, hl1]
      rw [show off + vs.length + (k - (off + vs.length)) = k by omega]
      simp

section
variable {P : Program} {o : Oper} {F : List (Nat × AV)} {H : List (Nat × Ob)}

/-- An operation that writes into one own object. -/
theorem OpT.modify {ts : List Nat} {rd : List Nat} {i e z : Nat} {els els' : List (List AV)} {fl fl' : Bool} {v : AV} (hi : get H i = some (.cells e z els fl)) (hird : i ∉ rd)
    (h : ∀ (S : Nat → Prop) (ρ : Rho) (a : Act) (w : World), FRs ts F a w S ρ → HRi (fun k => k ∈ rd ∨ k ∈ [i]) w S ρ H → ∃ b cap, ρ i = some (some b, z, cap) ∧
      ∀ C : Array Value, w.heap[b]? = some (.cells C e (0, 0)) → C.size = cap * z → els.length ≤ cap →
        (∀ (j : Nat) (el : List AV), els[j]? = some el → el.length ≤ z) →
        (∀ (j : Nat) (el : List AV) (k : Nat) (u : AV), els[j]? = some el → el[k]? = some u → (C.getD (j * z + k) undef).oneCell' = true ∧ if fl = true then CR w S u (C.getD (j * z + k) undef) else VR w S ρ u (C.getD (j * z + k) undef)) →
        ∃ (C' : Array Value) (cv : Value), ((execOp a.eval o).run P w = .ok (.value cv) (w.setRow b C') ∨ ((execOp a.eval o).run P w = .ok .skip (w.setRow b C') ∧ cv = undef)) ∧ C'.size = C.size ∧
          els'.length ≤ cap ∧ (∀ (j : Nat) (el : List AV), els'[j]? = some el → el.length ≤ z) ∧
          (∀ (j : Nat) (el : List AV) (k : Nat) (u : AV), els'[j]? = some el → el[k]? = some u → (C'.getD (j * z + k) undef).oneCell' = true ∧ if fl' = true then CR w S u (C'.getD (j * z + k) undef) else VR w S ρ u (C'.getD (j * z + k) undef)) ∧
          ∀ w', CR w' S v cv) :
    OpT P o ts F H rd [i] v ((i, .cells e z els' fl') :: H) := by
  intro S ρ a w Q K hF hS hH _ hK
  obtain ⟨b, cap, hρ, h⟩ := h S ρ a w hF hH
  obtain ⟨bk, z1, cap1, h1, hz, h2⟩ := hH.ob i _ (by simp) hi
  rw [hρ] at h1
  obtain ⟨rfl, rfl, rfl⟩ : some b = bk ∧ z = z1 ∧ cap = cap1 := by simpa using h1
  obtain ⟨hs, hm, C, hC, e1, e2, e3, e4⟩ := h2
  obtain ⟨C', cv, hr, f1, f2, f3, f4, f5⟩ := h C hC e1 e2 e3 e4
  have hcell : ∀ (a : Addr) (c : Value), S a.block → w.cell? a = some c → (w.setRow b C').cell? a = some c := fun a c hsb hc => by
    rw [World.cell?_of_block (w := w) (setRow_other w b a.block C' (fun e => by rw [e] at hsb; exact hs hsb))]; exact hc
  have hget : ∀ k, k ≠ i → get ((i, Ob.cells e z els' fl') :: H) k = get H k := fun k hk => by simp [get, Ne.symm hk]
  have hgeti : get ((i, Ob.cells e z els' fl') :: H) i = some (.cells e z els' fl') := by simp [get]
  have hblk : ∀ k, k ≠ b → (w.setRow b C').heap[k]? = w.heap[k]? := fun k hk => setRow_other w b k C' hk
  have hsz : (w.setRow b C').heap.size = w.heap.size := by simp [World.setRow]
  have live_i : LiveB ρ H (fun k => k ∈ rd ∨ k ∈ [i]) b := ⟨i, _, z, cap, by simp, hi, rfl, hρ⟩
  have fin : K (a.put o.dst cv) (w.setRow b C') := by
    refine hK cv _ S ρ (.cl (f5 _)) ⟨fun k ob hk hg => ?_, fun k l ok ol b' z' z'' c' c'' hk hl hne hgk hgl hlk hll hrk hrl => ?_⟩
      ⟨⟨rfl, rfl, rfl, by rw [hsz]; exact Nat.le_refl _, fun k hk hn => hblk k (fun e => by subst e; exact hn live_i)⟩, fun _ h => h, fun _ h => .inl h, fun b' hb' => by rw [hsz]; exact hS b' hb', fun b' hb' => ?_, fun _ _ => rfl⟩
    · by_cases hki : k = i
      · subst hki
        rw [hgeti] at hg
        injection hg with hg; subst hg
        refine ⟨some b, z, cap, hρ, rfl, hs, hm, C', setRow_heap w b C C' e (0, 0) hC, by rw [f1, e1], f2, f3, fun j el q u hj hq => ?_⟩
        obtain ⟨g1, g2⟩ := f4 j el q u hj hq
        refine ⟨g1, ?_⟩
        by_cases hf : fl' = true
        · rw [if_pos hf] at g2 ⊢; exact g2.mono (fun _ h => h) hcell
        · rw [if_neg hf] at g2 ⊢; exact g2.mono (fun _ h => h) hcell (fun _ _ h => h)
      · rw [hget k hki] at hg
        obtain ⟨bk', z', cap', g1, g2⟩ := hH.ob k ob hk hg
        refine ⟨bk', z', cap', g1, g2.mono (fun _ h => h) hcell (fun _ _ h => h) fun b' hb' hl => ?_⟩
        subst hb'
        have hne : b' ≠ b := fun e => by subst e; exact hH.dis k i ob _ b' z' z cap' cap hk (by simp) hki hg hi hl rfl g1 hρ
        refine ⟨hblk b' hne, ?_⟩
        cases ob with
        | dead => cases hl
        | cells e'' z'' els'' fl'' => exact g2.2.1
        | mset ks =>
          obtain ⟨b1, es, clk, e1, q3, _⟩ := g2
          injection e1 with e1; subst e1; exact q3
    · by_cases hki : k = i
      · subst hki
        have hli : l ≠ k := Ne.symm hne
        rw [hget l hli] at hgl
        exact hH.dis k l _ _ b' z' z'' c' c'' hk hl hne hi hgl rfl hll hrk hrl
      · rw [hget k hki] at hgk
        by_cases hli : l = i
        · subst hli
          exact hH.dis k l _ _ b' z' z'' c' c'' hk hl hne hgk hi hlk rfl hrk hrl
        · rw [hget l hli] at hgl
          exact hH.dis k l _ _ b' z' z'' c' c'' hk hl hne hgk hgl hlk hll hrk hrl
    · obtain ⟨k, ob, z', cap', hk, hg, hl, hrk⟩ := hb'
      by_cases hki : k = i
      · subst hki; exact .inl ⟨k, _, z', cap', hk, hi, rfl, hrk⟩
      · rw [hget k hki] at hg; exact .inl ⟨k, ob, z', cap', hk, hg, hl, hrk⟩
  refine .inl ?_
  unfold Oper.wp
  rcases hr with hr | ⟨hr, rfl⟩
  · rw [hr]; exact fin
  · rw [hr]; exact fin

/-- New cells at one place of one element. -/
theorem set_cells {w : World} {S : Nat → Prop} {ρ : Rho} {z cap : Nat} {els : List (List AV)} {fl flc : Bool} {C : Array Value} {cs : List AV} {D : Array Value} {j p : Nat} {el : List AV} (h1 : C.size = cap * z) (h2 : els.length ≤ cap)
    (h3 : ∀ (j : Nat) (el : List AV), els[j]? = some el → el.length ≤ z)
    (h4 : ∀ (j : Nat) (el : List AV) (k : Nat) (u : AV), els[j]? = some el → el[k]? = some u → (C.getD (j * z + k) undef).oneCell' = true ∧ if fl = true then CR w S u (C.getD (j * z + k) undef) else VR w S ρ u (C.getD (j * z + k) undef))
    (hj : els[j]? = some el) (hp : p + cs.length ≤ el.length) (hD : CellsR w S ρ cs D) (hfl : flc = true → closedL cs = true) :
    let C' := (C.toList.take (j * z + p) ++ D.toList ++ C.toList.drop (j * z + p + D.toList.length)).toArray
    C'.size = C.size ∧ (els.set j (setAt el p cs)).length ≤ cap ∧ (∀ (i : Nat) (el' : List AV), (els.set j (setAt el p cs))[i]? = some el' → el'.length ≤ z) ∧
    ∀ (i : Nat) (el' : List AV) (k : Nat) (u : AV), (els.set j (setAt el p cs))[i]? = some el' → el'[k]? = some u → (C'.getD (i * z + k) undef).oneCell' = true ∧
      if (fl && flc) = true then CR w S u (C'.getD (i * z + k) undef) else VR w S ρ u (C'.getD (i * z + k) undef) := by
  have hjl : j < els.length := (List.getElem?_eq_some_iff.1 hj).1
  have hel := h3 j el hj
  have hDl : D.toList.length = cs.length := by simpa using hD.1
  have hfit : j * z + p + D.toList.length ≤ C.size := by
    rw [h1, hDl]
    calc j * z + p + cs.length ≤ j * z + z := by omega
      _ = (j + 1) * z := by rw [Nat.add_mul, Nat.one_mul]
      _ ≤ cap * z := Nat.mul_le_mul_right _ (by omega)
  obtain ⟨s1, s2⟩ := splice_get C (j * z + p) D.toList hfit
  intro C'
  refine ⟨s1, by simpa using h2, fun i el' hi => ?_, fun i el' k u hi hk => ?_⟩
  · rw [List.getElem?_set] at hi
    by_cases hij : j = i
    · subst hij
      rw [if_pos rfl, if_pos hjl] at hi
      injection hi with hi; subst hi; rw [length_setAt]; exact hel
    · rw [if_neg hij] at hi
      exact h3 i el' hi
  · have getD_C' : C'.getD (i * z + k) undef = if j * z + p ≤ i * z + k ∧ i * z + k < j * z + p + D.toList.length then D.getD (i * z + k - (j * z + p)) undef else C.getD (i * z + k) undef := by
      have e := s2 (i * z + k)
      rw [Array.getD_eq_getD_getElem?, e]
      split <;> simp
    have weaken : ∀ c : Value, (if fl = true then CR w S u c else VR w S ρ u c) → VR w S ρ u c := fun c h => by
      by_cases hf : fl = true
      · rw [if_pos hf] at h; exact .cl h
      · rw [if_neg hf] at h; exact h
    rw [getD_C']
    rw [List.getElem?_set] at hi
    by_cases hij : j = i
    · subst hij
      rw [if_pos rfl, if_pos hjl] at hi
      injection hi with hi; subst hi
      rw [getElem?_setAt cs el p k hp] at hk
      by_cases hkp : p ≤ k ∧ k < p + cs.length
      · rw [if_pos hkp] at hk
        rw [if_pos (by rw [hDl]; omega), show j * z + k - (j * z + p) = k - p by omega]
        obtain ⟨g1, g2⟩ := hD.2 (k - p) u hk
        refine ⟨g1, ?_⟩
        split
        · rename_i hf
          exact closedL_conv hD (hfl (by simp at hf; exact hf.2)) hk
        · exact g2
      · rw [if_neg hkp] at hk
        rw [if_neg (by rw [hDl]; omega)]
        obtain ⟨g1, g2⟩ := h4 j el k u hj hk
        refine ⟨g1, ?_⟩
        split
        · rename_i hf
          simp at hf
          rw [if_pos hf.1] at g2; exact g2
        · exact weaken _ g2
    · rw [if_neg hij] at hi
      have hkz : k < z := Nat.lt_of_lt_of_le (List.getElem?_eq_some_iff.1 hk).1 (h3 i el' hi)
      rw [if_neg (by rw [hDl]; exact window hkz (by omega) (Ne.symm hij))]
      obtain ⟨g1, g2⟩ := h4 i el' k u hi hk
      refine ⟨g1, ?_⟩
      split
      · rename_i hf
        simp at hf
        rw [if_pos hf.1] at g2; exact g2
      · exact weaken _ g2

theorem oneCell_of_cellsR {w : World} {S : Nat → Prop} {ρ : Rho} {cs : List AV} {D : Array Value} (h : CellsR w S ρ cs D) : ∀ v ∈ D.toList, v.oneCell' = true := by
  intro v hv
  obtain ⟨k, hk⟩ := List.getElem?_of_mem hv
  have hkl : k < cs.length := by
    have := (List.getElem?_eq_some_iff.1 hk).1
    rw [← h.1]; simpa using this
  obtain ⟨c, hc, h1, _⟩ := h.at_ (List.getElem?_eq_getElem hkl)
  have e : D[k]? = some v := by simpa using hk
  rw [e] at hc
  injection hc with hc
  rw [hc]; exact h1

theorem opt_st {t : TypeId} {n i j p e z : Nat} {x y : Operand} {rx ry : Arg} {els : List (List AV)} {fl : Bool} {el cs : List AV} {u : AV} (hz : sizeP P t = some n) (hx : carg x = some rx) (hy : carg y = some ry) (ho : o.op = .store t x y)
    (hv : aarg F rx = some (.ptr i j p)) (hu : aarg F ry = some u) (hi : get H i = some (.cells e z els fl)) (hcs : acells u = some cs) (hj : els[j]? = some el) (hn : cs.length = n) (hp : p + n ≤ el.length) :
    OpT P o (rx.slots ++ ry.slots) F H [] [i] .und ((i, .cells e z (els.set j (setAt el p cs)) (fl && closedL cs)) :: H) := by
  refine OpT.modify (i := i) hi (by simp) fun S ρ a w hF hH => ?_
  obtain ⟨b, z0, cap, hρ, e1⟩ := (carg_ok hx hF (fun _ h => by simp [h]) hv).ptr_inv
  obtain ⟨rfl, _⟩ := own_cells hH (by simp) hi hρ
  refine ⟨b, cap, hρ, fun C hC h1 h2 h3 h4 => ?_⟩
  have hD := acells_ok (carg_ok hy hF (fun _ h => by simp [h]) hu) hcs
  obtain ⟨s1, s2, s3, s4⟩ := set_cells (flc := closedL cs) (cs := cs) (p := p) h1 h2 h3 h4 hj (by omega) hD (fun h => h)
  have hjl : j < els.length := (List.getElem?_eq_some_iff.1 hj).1
  have hfit : j * z + p + (a.eval y).cells.toList.length ≤ C.size := by
    have := h3 j el hj
    have hDl : (a.eval y).cells.toList.length = cs.length := by simpa using hD.1
    rw [h1, hDl]
    calc j * z + p + cs.length ≤ j * z + z := by omega
      _ = (j + 1) * z := by rw [Nat.add_mul, Nat.one_mul]
      _ ≤ cap * z := Nat.mul_le_mul_right _ (by omega)
  have hst := run_storeCells_at P b (j * z + p) e (a.eval y).cells.toList 0 C w hC (by simpa using hfit) (oneCell_of_cellsR hD)
  refine ⟨_, undef, .inr ⟨?_, rfl⟩, s1, s2, s3, s4, fun _ => .und⟩
  have hsz : (a.eval y).cells.size = n := by rw [hD.1]; exact hn
  simp only [Nat.add_zero] at hst
  simp [execOp, ho, e1, Instr.storeAt, Instr.sureAddr, storeVar, run_sizeOfP hz, hsz, hst]

end
end Go.Proofs.Ytadjdnhnbkcakaa
