/-
  What stands behind a slice that is read whole; copy; append.
-/
import Derived.Test.YtadjdnhnbkcakaaL8
import Derived.Maps.AppendAt
namespace Go.Proofs.Ytadjdnhnbkcakaa
open Go.RowKit

theorem getElem?_flatten_u {z : Nat} : ∀ (els : List (List AV)), (∀ el ∈ els, el.length = z) → ∀ (q : Nat), 0 < z → els.flatten[q]? = (els[q / z]?).bind (·[q % z]?)
  | [], _, q, _ => by simp
  | el :: els, h, q, hz => by
    have hl : el.length = z := h el (by simp)
    have ih := getElem?_flatten_u els (fun x hx => h x (by simp [hx]))
    simp only [List.flatten_cons]
    by_cases hq : q < z
    · rw [List.getElem?_append_left (by omega), Nat.div_eq_of_lt hq, Nat.mod_eq_of_lt hq]
      simp
    · rw [List.getElem?_append_right (by omega), hl, ih (q - z) hz]
      have e1 : q / z = (q - z) / z + 1 := by
        rw [← Nat.add_div_right _ hz, Nat.sub_add_cancel (by omega)]
      have e2 : q % z = (q - z) % z := by rw [Nat.mod_eq_sub_mod (by omega)]
      rw [e1, e2]
      simp

theorem length_flatten_u {z : Nat} : ∀ (els : List (List AV)), (∀ el ∈ els, el.length = z) → els.flatten.length = els.length * z
  | [], _ => by simp
  | el :: els, h => by
    simp [h el (by simp), length_flatten_u els (fun x hx => h x (by simp [hx])), Nat.add_mul]; omega

theorem flatE_mem : ∀ {els : List (List AV)} {el : List AV}, flatE els = true → el ∈ els → closedL el = true
  | e :: r, el, h, he => by
    simp only [flatE, Bool.and_eq_true] at h
    rcases List.mem_cons.1 he with rfl | he
    · exact h.1
    · exact flatE_mem h.2 he

theorem closedL_append : ∀ (a b : List AV), closedL (a ++ b) = (closedL a && closedL b)
  | [], b => by simp [closedL]
  | v :: a, b => by simp [closedL, closedL_append a b, Bool.and_assoc]

theorem closedL_flatten : ∀ {els : List (List AV)}, flatE els = true → closedL els.flatten = true
  | [], _ => rfl
  | e :: r, h => by
    simp only [flatE, Bool.and_eq_true] at h
    simp [closedL_append, h.1, closedL_flatten h.2]

section
variable {P : Program} {o : Oper} {F : List (Nat × AV)} {H : List (Nat × Ob)}

/-- Elements, cell by cell, from an address on. -/
theorem src_cells {w : World} {S : Nat → Prop} {ρ : Rho} {z : Nat} {news : List (List AV)} (hz : 0 < z) (hn : ∀ el ∈ news, el.length = z) (A : Addr) (f : Nat → Nat → Value)
    (h : ∀ (j : Nat) (el : List AV) (k : Nat) (u : AV), news[j]? = some el → el[k]? = some u → w.cell? (A.add (j * z + k)) = some (f j k) ∧ (f j k).oneCell' = true ∧ VR w S ρ u (f j k)) :
    ∃ D : Array Value, (loadCells A (news.length * z)).run P w = .ok D w ∧ CellsR w S ρ news.flatten D ∧ ∀ q u, D.toList[q]? = some u → w.cell? (A.add q) = some u := by
  have at_ : ∀ q, q < news.length * z → ∃ el u, news[q / z]? = some el ∧ el[q % z]? = some u := fun q hq => by
    have h1 : q / z < news.length := Nat.div_lt_of_lt_mul (by rw [Nat.mul_comm]; exact hq)
    have h2 : q % z < z := Nat.mod_lt _ hz
    have h3 := hn _ (List.getElem_mem h1)
    exact ⟨news[q / z], news[q / z][q % z]'(by omega), List.getElem?_eq_getElem h1, List.getElem?_eq_getElem (by omega)⟩
  have cell : ∀ q, q < news.length * z → w.cell? (A.add q) = some (f (q / z) (q % z)) := fun q hq => by
    obtain ⟨el, u, h1, h2⟩ := at_ q hq
    have := (h _ el _ u h1 h2).1
    rwa [Nat.mul_comm, Nat.div_add_mod] at this
  refine ⟨((List.range (news.length * z)).map fun q => f (q / z) (q % z)).toArray, run_loadCells w A _ _ cell, cellsR_of (by simp [length_flatten_u news hn]) fun q u hq => ?_, fun q u hq => ?_⟩
  · have hql : q < news.length * z := by rw [← length_flatten_u news hn]; exact (List.getElem?_eq_some_iff.1 hq).1
    rw [getElem?_flatten_u news hn q hz] at hq
    obtain ⟨el, u', h1, h2⟩ := at_ q hql
    simp [h1, h2] at hq
    subst hq
    obtain ⟨_, g2, g3⟩ := h _ el _ u' h1 h2
    exact ⟨_, by simp [hql], g2, g3⟩
  · have hql : q < news.length * z := by
      have := (List.getElem?_eq_some_iff.1 hq).1
      simpa using this
    simp [hql] at hq
    rw [cell q hql, hq]

theorem src_ok {w : World} {S : Nat → Prop} {ρ : Rho} {z : Nat} {v : AV} {c : Value} {rd : List Nat} {news : List (List AV)} {I : Nat → Prop} (hz : 0 < z) (hs : srcOf H z v = some (rd, news))
    (hn : ∀ el ∈ news, el.length = z) (hv : VR w S ρ v c) (hH : HRi I w S ρ H) (hI : ∀ i, i ∈ rd → I i) :
    ∃ (A : Option Addr) (cap : Nat) (D : Array Value), c = .slice A news.length cap ∧ (Builtin.firstCells z news.length c).run P w = .ok D w ∧ CellsR w S ρ news.flatten D ∧
      (news ≠ [] → ∃ a, A = some a ∧ ∀ q u, D.toList[q]? = some u → w.cell? (a.add q) = some u) := by
  have empty : ∀ (A : Option Addr) (cap : Nat), ∃ (A' : Option Addr) (cap' : Nat) (D : Array Value), Value.slice A 0 cap = .slice A' ([] : List (List AV)).length cap' ∧
      (Builtin.firstCells z ([] : List (List AV)).length (.slice A 0 cap)).run P w = .ok D w ∧ CellsR w S ρ ([] : List (List AV)).flatten D ∧
      (([] : List (List AV)) ≠ [] → ∃ a, A' = some a ∧ ∀ q u, D.toList[q]? = some u → w.cell? (a.add q) = some u) := fun A cap => by
    refine ⟨A, cap, #[], rfl, ?_, ⟨rfl, by simp⟩, fun h => absurd rfl h⟩
    cases A with
    | none => simp [Builtin.firstCells]
    | some a => simp [Builtin.firstCells, loadCells, loadCellsFrom]
  cases v <;> simp only [srcOf] at hs <;> first | (cases hs; done) | skip
  · -- nils
    simp at hs
    obtain ⟨rfl, rfl⟩ := hs
    rw [hv.nils_inv]
    exact empty none 0
  · -- sl
    rename_i i j n
    split at hs
    · rename_i e z' els fl hob
      split at hs
      · rename_i hb
        obtain ⟨rfl, hb⟩ := hb
        simp only [Option.some.injEq, Prod.mk.injEq] at hs
        obtain ⟨rfl, rfl⟩ := hs
        have hlen : ((els.drop j).take n).length = n := by simp; omega
        rcases hv.sl_inv with ⟨b, z, cap, cap', hρ, _, _, rfl⟩ | ⟨z, hρ, rfl, rfl, rfl⟩
        · obtain ⟨rfl, _, _, C, _, _, _, _, hc⟩ := own_cells hH (hI i (by simp)) hob hρ
          obtain ⟨D, e1, e2, e3⟩ := src_cells (P := P) hz hn ⟨b, j * z', none⟩ (fun q k => C.getD ((j + q) * z' + k) undef) (fun q el k u hq hk => by
            rw [List.getElem?_take] at hq
            split at hq
            · rw [List.getElem?_drop] at hq
              rw [add_lit, ← Nat.add_assoc, ← Nat.add_mul]
              exact hc (j + q) el k u hq hk
            · cases hq)
          rw [hlen] at e1 ⊢
          exact ⟨_, cap', D, rfl, by simpa [Builtin.firstCells] using e1, e2, fun _ => ⟨_, rfl, e3⟩⟩
        · simpa using empty none 0
      · cases hs
    · cases hs
  · -- rs
    rename_i z' els
    split at hs
    · rename_i hzz
      simp only [Option.some.injEq, Prod.mk.injEq] at hs
      obtain ⟨rfl, rfl⟩ := hs
      rcases hv.rs_inv with ⟨rfl, A, cap, rfl⟩ | ⟨b, off, cap, cf, rfl, hS, hcap, h1, h2⟩
      · exact empty A cap
      · by_cases he : els = []
        · subst he; simpa using empty (some ⟨b, off, none⟩) cap
        · have hz' : z' = z := hzz.resolve_right he
          subst hz'
          obtain ⟨D, e1, e2, e3⟩ := src_cells (P := P) (ρ := ρ) hz hn ⟨b, off, none⟩ cf (fun q el k u hq hk => by
            rw [add_lit, ← Nat.add_assoc]
            exact ⟨(h1 q el k u hq hk).1, (h1 q el k u hq hk).2, .cl (h2 q el k u hq hk)⟩)
          exact ⟨_, cap, D, rfl, by simpa [Builtin.firstCells] using e1, e2, fun _ => ⟨_, rfl, e3⟩⟩
    · cases hs

theorem opt_cpy {t u e e0 : TypeId} {x y : Operand} {rx ry : Arg} {i j p n z : Nat} {v : AV} {els news : List (List AV)} {fl : Bool} {el : List AV} {rd : List Nat} (ht : P.underlying t = some (.slice e0)) (hz : sizeP P e0 = some 1)
    (hx : carg x = some rx) (hy : carg y = some ry) (ho : o.op = .call { callee := .builtin .copy, args := #[x, y], argTypes := #[t, u] }) (hv : aarg F rx = some (.sa i j p n)) (hu : aarg F ry = some v)
    (hi : get H i = some (.cells e z els fl)) (hs : srcOf H 1 v = some (rd, news)) (hj : els[j]? = some el) (hn : ∀ c ∈ news, c.length = 1) (hird : i ∉ rd) (hl : news.length ≤ n) (hp : p + news.length ≤ el.length) :
    OpT P o (rx.slots ++ ry.slots) F H rd [i] (.int .i64 news.length) ((i, .cells e z (els.set j (setAt el p news.flatten)) (fl && flatE news)) :: H) := by
  refine OpT.modify (i := i) hi hird fun S ρ a w hF hH => ?_
  obtain ⟨b, z0, cap, cap', hρ, hn', e1⟩ := (carg_ok hx hF (fun _ h => by simp [h]) hv).sa_inv
  obtain ⟨rfl, _⟩ := own_cells hH (by simp) hi hρ
  refine ⟨b, cap, hρ, fun C hC h1 h2 h3 h4 => ?_⟩
  obtain ⟨A, capy, D, e2, e3, hD, _⟩ := src_ok (P := P) (by omega) hs hn (carg_ok hy hF (fun _ h => by simp [h]) hu) hH (fun k hk => .inl hk)
  have hfl : news.flatten.length = news.length := by simpa using length_flatten_u news hn
  obtain ⟨s1, s2, s3, s4⟩ := set_cells (flc := flatE news) (cs := news.flatten) (p := p) h1 h2 h3 h4 hj (by omega) hD (fun h => closedL_flatten h)
  have hDl : D.toList.length = news.length := by rw [← hfl]; simpa using hD.1
  have hjl : j < els.length := (List.getElem?_eq_some_iff.1 hj).1
  have hfit : j * z + p + D.toList.length ≤ C.size := by
    have := h3 j el hj
    rw [h1, hDl]
    calc j * z + p + news.length ≤ j * z + z := by omega
      _ = (j + 1) * z := by rw [Nat.add_mul, Nat.one_mul]
      _ ≤ cap * z := Nat.mul_le_mul_right _ (by omega)
  have hst := run_storeCells_at P b (j * z + p) e D.toList 0 C w hC (by simpa using hfit) (oneCell_of_cellsR hD)
  refine ⟨_, .int .i64 news.length, .inl ?_, s1, s2, s3, s4, fun _ => .int _ _⟩
  have hmin : Nat.min news.length n = news.length := Nat.min_eq_left hl
  simp only [Nat.add_zero] at hst
  rw [e2] at e3
  simp [execOp, ho, e1, e2, resolve, invoke, builtin, Builtin.copy_, run_underlying ht, Builtin.lenOf, run_sizeOfP hz, hmin, e3, hst, goInt]

end
end Go.Proofs.Ytadjdnhnbkcakaa
