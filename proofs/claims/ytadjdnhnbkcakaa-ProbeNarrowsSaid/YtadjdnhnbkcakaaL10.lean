/-
  append onto a row of the call's own, or onto nil.
-/
import Derived.Test.YtadjdnhnbkcakaaL9
namespace Go.Proofs.Ytadjdnhnbkcakaa
open Go.RowKit

section
variable {P : Program} {o : Oper} {F : List (Nat × AV)} {H : List (Nat × Ob)}

theorem run_append_zero {t ty e : TypeId} {i : TypeInfo} {z : Nat} (ht : P.underlying t = some (.slice e)) (hi : P.info? e = some i) (w : World) (base : Nat) (s : Value) (n : Nat) (xs : List Value) (hs : i.size = z)
    (hown : w.ownsRow base e z s n xs) (A : Option Addr) (cap : Nat) : (Builtin.append_ #[t, t] ty #[s, .slice A 0 cap]).run P w = .ok s w := by
  have e0 : ∀ A : Option Addr, (Builtin.firstCells z 0 (.slice A 0 cap)).run P w = .ok #[] w := fun A => by
    cases A <;> simp [Builtin.firstCells, loadCells, loadCellsFrom]
  rcases hown.2 with ⟨rfl, rfl⟩ | ⟨g, cap', cur, rfl, _, _, hnc, _⟩
  · simp [Builtin.append_, run_underlying ht, sizeOf, typeInfo, hi, Builtin.lenOf, hs, e0]
  · simp [Builtin.append_, run_underlying ht, sizeOf, typeInfo, hi, Builtin.lenOf, hs, e0, hnc, storeCells]

/-- The concrete append, whatever the source. -/
theorem run_append_any {t ty e : TypeId} {z by_ : Nat} {zero : List AV} (ht : P.underlying t = some (.slice e)) (hz : tyZ P e = some (z, by_, zero)) (hz0 : z ≠ 0) (w : World) (s : Value) (n : Nat) (xs : List Value)
    (hown : w.ownsRow 0 e z s n xs) (A : Option Addr) (m cap : Nat) (D : Array Value) (hDl : D.size = m * z) (h1 : ∀ v ∈ D.toList, v.oneCell' = true)
    (hA : m ≠ 0 → ∃ a, A = some a ∧ ∀ q u, D.toList[q]? = some u → w.cell? (a.add q) = some u) (h63 : n + m ≤ maxLen) (hb : (n + m) * by_ ≤ 140737488355328) :
    ∃ v' w', (Builtin.append_ #[t, t] ty #[s, .slice A m cap]).run P w = .ok v' w' ∧ w'.ownsRow 0 e z v' (n + m) (xs ++ D.toList) ∧ w.grownBy w' s.ownBlock ∧
      (v'.ownBlock = s.ownBlock ∨ v'.ownBlock = some w.heap.size) := by
  obtain ⟨i, zv, hi, hzv, hs, hby, _, hzs, _⟩ := tyZ_ok hz
  by_cases hm : m = 0
  · subst hm
    have hD : D.toList = [] := by
      apply List.eq_nil_of_length_eq_zero
      simpa using hDl
    exact ⟨s, w, run_append_zero ht hi w 0 s n xs hs hown A cap, by simpa [hD] using hown, World.grownBy.refl w _, .inl rfl⟩
  · obtain ⟨a, rfl, hc⟩ := hA hm
    obtain ⟨v', w', hr, h2, h3, _, h5⟩ := run_append_own_at (P := P) w 0 t ty e i zv z by_ ht hi hzv hs hby hzs (by omega) s n xs hown a m cap D.toList (by simpa using hDl) hc h1 h63 hb (Nat.zero_le _)
    exact ⟨v', w', hr, h2, h3, h5⟩

/-- What an append leaves, told of the names: d is the new row, the old row (where there is one) is dead. -/
theorem OpT.appended {ts : List Nat} {d e z n : Nat} {rd : List Nat} {old : Option Nat} {els news : List (List AV)} {fl : Bool} {H1 : List (Nat × Ob)} (hd : get H d = none) (hz0 : z ≠ 0)
    (hH1 : ∀ k, get H1 k = if k = d then some (.cells e z (els ++ news) (fl && flatE news)) else if some k = old then some .dead else get H k)
    (hrd : ∀ k, some k = old → k ∉ rd ∧ ∃ ob, get H k = some ob ∧ ob.live = true) (hels : els.length = n) (hn : ∀ el ∈ news, el.length = z) (wr : List Nat) (hwr : ∀ k, k ∈ wr ↔ k = d ∨ some k = old)
    (h : ∀ (S : Nat → Prop) (ρ : Rho) (a : Act) (w : World), FRs ts F a w S ρ → (∀ b, S b → b < w.heap.size) → HRi (fun k => k ∈ rd ∨ k ∈ wr) w S ρ H →
      ∃ (s : Value) (xs : List Value) (D : Array Value) (v' : Value) (w' : World), w.ownsRow 0 e z s n xs ∧ CellsR w S ρ news.flatten D ∧
        (execOp a.eval o).run P w = .ok (.value v') w' ∧ w'.ownsRow 0 e z v' (n + news.length) (xs ++ D.toList) ∧ w.grownBy w' s.ownBlock ∧ (v'.ownBlock = s.ownBlock ∨ v'.ownBlock = some w.heap.size) ∧
        (∀ b, s.ownBlock = some b → ∃ k ob z' cap, old = some k ∧ get H k = some ob ∧ ob.live = true ∧ ρ k = some (some b, z', cap)) ∧
        (∀ (j : Nat) (el : List AV), els[j]? = some el → el.length ≤ z) ∧
        ∀ (j : Nat) (el : List AV) (k : Nat) (u : AV), els[j]? = some el → el[k]? = some u → ∃ c, xs[j * z + k]? = some c ∧ c.oneCell' = true ∧ if fl = true then CR w S u c else VR w S ρ u c) :
    OpT P o ts F H rd wr (.sl d 0 (n + news.length)) H1 := by
  intro S ρ a w Q K hF hS hH hnew hK
  obtain ⟨s, xs, D, v', w', hown, hD, hr, hown', hg, hblk, hold, hell, hcells⟩ := h S ρ a w hF hS hH
  have hρd : ρ d = none := hnew d ((hwr d).2 (.inl rfl)) hd
  have hdold : some d ≠ old := fun e => by
    obtain ⟨_, ob, h1, _⟩ := hrd d e
    rw [hd] at h1; cases h1
  have hDl : D.toList.length = news.length * z := by
    have := hD.1
    rw [length_flatten_u news hn] at this
    simpa using this
  have hxl : xs.length = n * z := hown.1
  -- where the new row lies
  have place : ∃ (bk : Option Nat) (cap : Nat), bk = v'.ownBlock ∧ (∀ (w0 : World) (ρ' : Rho), ρ' d = some (bk, z, cap) → VR w0 S ρ' (.sl d 0 (n + news.length)) v') ∧
      (bk = none → n + news.length = 0 ∧ cap = 0) ∧ (∀ b, bk = some b → cap ≤ maxLen ∧ ∃ C : Array Value, w'.heap[b]? = some (.cells C e (0, 0)) ∧ C.size = cap * z ∧ n + news.length ≤ cap ∧ C.toList.take ((n + news.length) * z) = xs ++ D.toList) := by
    rcases hown'.2 with ⟨rfl, h0⟩ | ⟨g, cap, cur, rfl, _, h1, h2, h3, h4, h5⟩
    · refine ⟨none, 0, rfl, fun w0 ρ' hρ' => ?_, fun _ => ⟨h0, rfl⟩, fun b hb => by cases hb⟩
      rw [h0]
      exact .sl0 d z hρ'
    · refine ⟨some g, cap, rfl, fun w0 ρ' hρ' => ?_, fun h => (by cases h), fun b hb => ?_⟩
      · have q := VR.sl (w := w0) (S := S) (ρ := ρ') d 0 (n + news.length) g z cap cap hρ' (by omega) h2
        simpa using q
      · injection hb with hb; subst hb
        exact ⟨h3, cur, h1, h4, h2, h5⟩
  obtain ⟨bk, cap, hbk, hv', hbn, hbs⟩ := place
  let ρ' : Rho := fun i => if i = d then some (bk, z, cap) else ρ i
  have hρ'd : ρ' d = some (bk, z, cap) := by simp [ρ']
  have hρ'o : ∀ i, i ≠ d → ρ' i = ρ i := fun i hi => by simp [ρ', hi]
  have hext : ∀ i x, ρ i = some x → ρ' i = some x := fun i x hx => by
    rw [hρ'o i (fun e => by subst e; rw [hρd] at hx; cases hx)]; exact hx
  have old_S : ∀ b, s.ownBlock = some b → ¬ S b ∧ b < w.heap.size := fun b hb => by
    obtain ⟨k, ob, z', c', hk, hg1, hl, hrk⟩ := hold b hb
    obtain ⟨bk1, z1, c1, q1, q2⟩ := hH.ob k ob (.inr ((hwr k).2 (.inr hk.symm))) hg1
    rw [hrk] at q1
    injection q1 with q1
    obtain ⟨rfl, rfl, rfl⟩ : some b = bk1 ∧ z' = z1 ∧ c' = c1 := by simpa using q1
    cases ob with
    | dead => cases hl
    | cells e1 z1 els1 fl1 =>
      obtain ⟨_, q3, _, C, q4, _⟩ := q2
      exact ⟨q3, (Array.getElem?_eq_some_iff.1 q4).1⟩
    | mset ks =>
      obtain ⟨b1, es, clk, e1, q3, q4, _⟩ := q2
      injection e1 with e1; subst e1
      exact ⟨q3, (Array.getElem?_eq_some_iff.1 q4).1⟩
  have hcell : ∀ (a : Addr) (c : Value), S a.block → w.cell? a = some c → w'.cell? a = some c := fun a c hs hc =>
    hg.cell hc fun e => (old_S a.block e.symm).1 hs
  have bk_new : ∀ b, bk = some b → s.ownBlock = some b ∨ b = w.heap.size := fun b hb => by
    rw [hbk] at hb
    rcases hblk with h | h
    · rw [h] at hb; exact .inl hb
    · rw [h] at hb; injection hb with hb; exact .inr hb.symm
  have weaken : ∀ (u : AV) (c : Value), (if fl = true then CR w S u c else VR w S ρ u c) → VR w S ρ u c := fun u c h => by
    by_cases hf : fl = true
    · rw [if_pos hf] at h; exact .cl h
    · rw [if_neg hf] at h; exact h
  have getd : get H1 d = some (.cells e z (els ++ news) (fl && flatE news)) := by rw [hH1, if_pos rfl]
  have get_old : ∀ k, k ≠ d → some k = old → get H1 k = some .dead := fun k h1 h2 => by rw [hH1, if_neg h1, if_pos h2]
  have get_else : ∀ k, k ≠ d → some k ≠ old → get H1 k = get H k := fun k h1 h2 => by rw [hH1, if_neg h1, if_neg h2]
  refine .inl ?_
  unfold Oper.wp
  rw [hr]
  refine hK v' w' S ρ' (hv' _ ρ' hρ'd) ⟨fun k ob hk hgk => ?_, fun k l ok ol b z1 z2 c1 c2 hk hl hne hgk hgl hlk hll hrk hrl => ?_⟩
    ⟨⟨hg.os, hg.tape, hg.output, hg.size, fun k hk hn => ?_⟩, fun _ h => h, fun _ h => .inl h, fun b hb => Nat.lt_of_lt_of_le (hS b hb) hg.size, fun b hb => ?_, fun i hi => hρ'o i fun e => hi ⟨(hwr i).2 (.inl e), by rw [e]; exact hd⟩⟩
  · by_cases hkd : k = d
    · subst hkd
      rw [getd] at hgk
      injection hgk with hgk; subst hgk
      refine ⟨bk, z, cap, hρ'd, rfl, ?_⟩
      cases hbk' : bk with
      | none =>
        obtain ⟨h0, h1⟩ := hbn hbk'
        have e1 : els = [] := List.eq_nil_of_length_eq_zero (by omega)
        have e2 : news = [] := List.eq_nil_of_length_eq_zero (by omega)
        exact ⟨by simp [e1, e2], h1⟩
      | some b =>
        obtain ⟨hm, C, hC, h1, h2, h3⟩ := hbs b hbk'
        have hnS : ¬ S b := fun hs => by
          rcases bk_new b hbk' with h | h
          · exact (old_S b h).1 hs
          · have := hS b hs; omega
        refine ⟨hnS, hm, C, hC, h1, by simpa [hels] using h2, fun j el hj => ?_, fun j el q u hj hq => ?_⟩
        · by_cases hjn : j < els.length
          · rw [List.getElem?_append_left hjn] at hj; exact hell j el hj
          · rw [List.getElem?_append_right (by omega)] at hj
            exact Nat.le_of_eq (hn el (List.mem_of_getElem? hj))
        · have at_ : ∀ r c, r < (n + news.length) * z → (xs ++ D.toList)[r]? = some c → C.getD r undef = c := fun r c hr hc => by
            rw [← h3, List.getElem?_take, if_pos hr] at hc
            have e : C[r]? = some c := by simpa using hc
            simp [e]
          by_cases hjn : j < els.length
          · rw [List.getElem?_append_left hjn] at hj
            obtain ⟨c, g1, g2, g3⟩ := hcells j el q u hj hq
            have hlt := (List.getElem?_eq_some_iff.1 g1).1
            have e := at_ (j * z + q) c (by
              rw [hxl] at hlt
              exact Nat.lt_of_lt_of_le hlt (Nat.mul_le_mul_right _ (by omega))) (by rw [List.getElem?_append_left hlt]; exact g1)
            rw [e]
            refine ⟨g2, ?_⟩
            by_cases hf : (fl && flatE news) = true
            · rw [if_pos hf]
              simp at hf
              rw [if_pos hf.1] at g3
              exact g3.mono (fun _ h => h) hcell
            · rw [if_neg hf]; exact (weaken u c g3).mono (fun _ h => h) hcell hext
          · rw [List.getElem?_append_right (by omega)] at hj
            have hel := hn el (List.mem_of_getElem? hj)
            have hqz : q < z := by rw [← hel]; exact (List.getElem?_eq_some_iff.1 hq).1
            have hjl : j - els.length < news.length := (List.getElem?_eq_some_iff.1 hj).1
            have hf' : news.flatten[(j - els.length) * z + q]? = some u := by
              rw [getElem?_flatten_u news hn _ (by omega), Nat.mul_comm, Nat.mul_add_div (by omega), Nat.mul_add_mod, Nat.div_eq_of_lt hqz, Nat.mod_eq_of_lt hqz, Nat.add_zero, hj]
              exact hq
            obtain ⟨c, g1, g2, g3⟩ := hD.at_ hf'
            have hidx : j * z + q = xs.length + ((j - els.length) * z + q) := by
              rw [hxl, ← hels]
              have : j * z = els.length * z + (j - els.length) * z := by rw [← Nat.add_mul]; congr 1; omega
              omega
            have e := at_ (j * z + q) c (by
              calc j * z + q < j * z + z := by omega
                _ = (j + 1) * z := by rw [Nat.add_mul, Nat.one_mul]
                _ ≤ (n + news.length) * z := Nat.mul_le_mul_right _ (by omega)) (by
              rw [hidx, List.getElem?_append_right (by omega), show xs.length + ((j - els.length) * z + q) - xs.length = (j - els.length) * z + q by omega]
              simpa using g1)
            rw [e]
            refine ⟨g2, ?_⟩
            by_cases hf : (fl && flatE news) = true
            · rw [if_pos hf]
              simp at hf
              exact (g3.closed (closedL_mem (flatE_mem hf.2 (List.mem_of_getElem? hj)) (List.mem_of_getElem? hq))).mono (fun _ h => h) hcell
            · rw [if_neg hf]; exact g3.mono (fun _ h => h) hcell hext
    · by_cases hko : some k = old
      · rw [get_old k hkd hko] at hgk
        injection hgk with hgk; subst hgk
        obtain ⟨_, ob, g1, _⟩ := hrd k hko
        obtain ⟨bk1, z1, c1, q1, _⟩ := hH.ob k ob hk g1
        exact ⟨bk1, z1, c1, by rw [hρ'o k hkd]; exact q1, trivial⟩
      · rw [get_else k hkd hko] at hgk
        obtain ⟨bk1, z1, c1, q1, q2⟩ := hH.ob k ob hk hgk
        refine ⟨bk1, z1, c1, by rw [hρ'o k hkd]; exact q1, q2.mono (fun _ h => h) hcell hext fun b hb hl => ?_⟩
        subst hb
        have hsb : s.ownBlock ≠ some b := fun e => by
          obtain ⟨k', ob', z', c', h1, h2, h3, h4⟩ := hold b e
          have hkk : k ≠ k' := fun e => hko (by rw [e]; exact h1.symm)
          exact hH.dis k k' ob ob' b z1 z' c1 c' hk (.inr ((hwr k').2 (.inr h1.symm))) hkk hgk h2 hl h3 q1 h4
        cases ob with
        | dead => cases hl
        | cells e1 z1' els1 fl1 =>
          obtain ⟨_, q3, _, C, q4, _⟩ := q2
          exact ⟨hg.block b (Array.getElem?_eq_some_iff.1 q4).1 (Ne.symm hsb), q3⟩
        | mset ks =>
          obtain ⟨b1, es, clk, e1, q3, q4, _⟩ := q2
          injection e1 with e1; subst e1
          exact ⟨hg.block b (Array.getElem?_eq_some_iff.1 q4).1 (Ne.symm hsb), q3⟩
  · -- distinct
    have other : ∀ k ok b z1 c1, (k ∈ rd ∨ k ∈ wr) → k ≠ d → get H1 k = some ok → ok.live = true → ρ' k = some (some b, z1, c1) → get H k = some ok ∧ ρ k = some (some b, z1, c1) ∧ some k ≠ old ∧ b < w.heap.size ∧ s.ownBlock ≠ some b := by
      intro k ok b z1 c1 hk hkd hgk hlk hrk
      rw [hρ'o k hkd] at hrk
      by_cases hko : some k = old
      · rw [get_old k hkd hko] at hgk
        injection hgk with hgk; subst hgk; cases hlk
      · rw [get_else k hkd hko] at hgk
        refine ⟨hgk, hrk, hko, ?_, fun e => ?_⟩
        · obtain ⟨bk1, z1', c1', q1, q2⟩ := hH.ob k ok hk hgk
          rw [hrk] at q1
          injection q1 with q1
          obtain ⟨rfl, rfl, rfl⟩ : some b = bk1 ∧ z1 = z1' ∧ c1 = c1' := by simpa using q1
          cases ok with
          | dead => cases hlk
          | cells e1 z1' els1 fl1 =>
            obtain ⟨_, q3, _, C, q4, _⟩ := q2
            exact (Array.getElem?_eq_some_iff.1 q4).1
          | mset ks =>
            obtain ⟨b1, es, clk, e1, q3, q4, _⟩ := q2
            injection e1 with e1; subst e1
            exact (Array.getElem?_eq_some_iff.1 q4).1
        · obtain ⟨k', ob', z', c', h1, h2, h3, h4⟩ := hold b e
          have hkk : k ≠ k' := fun e => hko (by rw [e]; exact h1.symm)
          exact hH.dis k k' ok ob' b z1 z' c1 c' hk (.inr ((hwr k').2 (.inr h1.symm))) hkk hgk h2 hlk h3 hrk h4
    by_cases hkd : k = d
    · subst hkd
      rw [hρ'd] at hrk
      injection hrk with hrk
      obtain ⟨rfl, rfl, rfl⟩ : bk = some b ∧ z = z1 ∧ cap = c1 := by simpa using hrk
      obtain ⟨_, _, _, h4, h5⟩ := other l ol b z2 c2 hl (Ne.symm hne) hgl hll hrl
      rcases bk_new b rfl with h | h
      · exact h5 h
      · omega
    · obtain ⟨g1, g2, g3, g4, g5⟩ := other k ok b z1 c1 hk hkd hgk hlk hrk
      by_cases hld : l = d
      · subst hld
        rw [hρ'd] at hrl
        injection hrl with hrl
        obtain ⟨rfl, rfl, rfl⟩ : bk = some b ∧ z = z2 ∧ cap = c2 := by simpa using hrl
        rcases bk_new b rfl with h | h
        · exact g5 h
        · omega
      · obtain ⟨f1, f2, _, _, _⟩ := other l ol b z2 c2 hl hld hgl hll hrl
        exact hH.dis k l ok ol b z1 z2 c1 c2 hk hl hne g1 f1 hlk hll g2 f2
  · refine hg.block k hk fun e => hn ?_
    obtain ⟨k', ob', z', c', h1, h2, h3, h4⟩ := hold k e.symm
    exact ⟨k', ob', z', c', .inr ((hwr k').2 (.inr h1.symm)), h2, h3, h4⟩
  · obtain ⟨k, ob, z', c', hk, hgk, hl, hrk⟩ := hb
    by_cases hkd : k = d
    · subst hkd
      rw [hρ'd] at hrk
      injection hrk with hrk
      obtain ⟨rfl, rfl, rfl⟩ : bk = some b ∧ z = z' ∧ cap = c' := by simpa using hrk
      rcases bk_new b rfl with h | h
      · obtain ⟨k', ob', z'', c'', h1, h2, h3, h4⟩ := hold b h
        exact .inl ⟨k', ob', z'', c'', .inr ((hwr k').2 (.inr h1.symm)), h2, h3, h4⟩
      · exact .inr (by omega)
    · rw [hρ'o k hkd] at hrk
      by_cases hko : some k = old
      · rw [get_old k hkd hko] at hgk
        injection hgk with hgk; subst hgk; cases hl
      · rw [get_else k hkd hko] at hgk
        exact .inl ⟨k, ob, z', c', hk, hgk, hl, hrk⟩

end
end Go.Proofs.Ytadjdnhnbkcakaa
