/-
  Parts of the proof: L25.
-/
import Derived.Test.YteommcdafifckaaDoorK1
import Derived.OpenShut
import Derived.SizedLaws
import Derived.ProofKit
set_option linter.unusedVariables false
set_option linter.unusedSimpArgs false

/-! From a reading of the row's arguments to abstract values: the shapes of types, and the values that a reading tells. No program in sight. -/
namespace Go.Proofs.YteommcdafifckaaDoor
open Go.RowKit Go.WideShapes Go.ChangeShapes Go.ChangeAt

inductive Sh where
  | int (k : IntKind)
  | bool
  | str
  | sl (z : Nat) (s : Sh)
  | st (ss : List Sh)
  | arr (n : Nat) (s : Sh)

mutual
/-- The type is of the shape. -/
def okSh (P : Program) : Sh → TypeId → Bool
  | .int k, t => match P.underlying t with | some (.int k') => decide (k' = k) && decide (P.cellsOf t = 1) | _ => false
  | .bool, t => match P.underlying t with | some .bool => decide (P.cellsOf t = 1) | _ => false
  | .str, t => match P.underlying t with | some .string => decide (P.cellsOf t = 1) | _ => false
  | .sl z s, t => match P.underlying t with | some (.slice e) => decide (P.cellsOf t = 1) && decide (P.cellsOf e = z) && decide (z ≠ 0) && decide (P.bytesOf e ≠ 0) && okSh P s e | _ => false
  | .st ss, t => match P.underlying t with | some (.struct fs) => okFs P ss fs.toList 0 (P.cellsOf t) | _ => false
  | .arr n s, t => match P.underlying t with | some (.array n' e) => decide (n' = n) && decide (P.cellsOf t = n * P.cellsOf e) && okSh P s e | _ => false
def okFs (P : Program) : List Sh → List Field → Nat → Nat → Bool
  | [], [], o, n => decide (o = n)
  | s :: ss, f :: fs, o, n => decide (f.offset = o) && okSh P s f.type && okFs P ss fs (o + P.cellsOf f.type) n
  | _, _, _, _ => false
end

section
variable {H : Type}

mutual
/-- The cells of a datum of a shape, as abstract values. -/
def avD : Sh → DataW H → List AV
  | .int k, .lit (.int _ n) => [.int k n]
  | .bool, .lit (.bool b) => [.bool b]
  | .str, .lit (.string l) => [.str ⟨l.toArray⟩]
  | .sl z _, .nil => [.rs z []]
  | .sl z s, .slice els _ => [.rs z (els.map (avD s))]
  | .st ss, .agg ps => avFs ss ps
  | .arr _ s, .agg ps => ps.flatMap (avD s)
  | _, _ => []
def avFs : List Sh → List (DataW H) → List AV
  | s :: ss, d :: ds => avD s d ++ avFs ss ds
  | _, _ => []
end

mutual
/-- The datum is of the shape, its numbers in range. -/
def Gd : Sh → DataW H → Prop
  | .int k, d => ∃ n, d = .lit (.int k n) ∧ (Lit.int k n).wf = true
  | .bool, d => ∃ b, d = .lit (.bool b)
  | .str, d => ∃ l, d = .lit (.string l) ∧ l.length ≤ 140737488351232
  | .sl _ s, d => d = .nil ∨ ∃ els sp, d = .slice els sp ∧ els.length ≤ 140737488351232 ∧ ∀ x, x ∈ els → Gd s x
  | .st ss, d => ∃ ps, d = .agg ps ∧ GdFs ss ps
  | .arr n s, d => ∃ ps, d = .agg ps ∧ ps.length = n ∧ ∀ x, x ∈ ps → Gd s x
def GdFs : List Sh → List (DataW H) → Prop
  | [], ds => ds = []
  | s :: ss, ds => ∃ d r, ds = d :: r ∧ Gd s d ∧ GdFs ss r
end

/-- All blocks that are there. -/
abbrev Sall (w : World) : Nat → Prop := fun b => b < w.heap.size

/-- Cells and their abstract values. -/
def Vs (w : World) (l : List AV) (cs : List Value) : Prop :=
  l.length = cs.length ∧ ∀ (j : Nat) (v : AV), l[j]? = some v → ∃ c, cs[j]? = some c ∧ c.oneCell' = true ∧ CR w (Sall w) v c

theorem Vs.nil {w : World} : Vs w [] [] := ⟨rfl, fun j v h => by simp at h⟩
theorem Vs.one {w : World} {v : AV} {c : Value} (h : c.oneCell' = true) (hc : CR w (Sall w) v c) : Vs w [v] [c] := ⟨rfl, fun j u hu => by
  cases j with
  | zero => simp at hu; subst hu; exact ⟨c, rfl, h, hc⟩
  | succ j => simp at hu⟩
theorem Vs.append {w : World} {a b : List AV} {x y : List Value} (h : Vs w a x) (k : Vs w b y) : Vs w (a ++ b) (x ++ y) := by
  refine ⟨by simp [h.1, k.1], fun j v hv => ?_⟩
  by_cases hj : j < a.length
  · rw [List.getElem?_append_left hj] at hv
    rw [List.getElem?_append_left (by rw [← h.1]; exact hj)]
    exact h.2 j v hv
  · rw [List.getElem?_append_right (by omega)] at hv
    rw [List.getElem?_append_right (by rw [← h.1]; omega), ← h.1]
    exact k.2 _ v hv

section
variable {enc : TypeId × Value → H} {P : Program} {w : World} {base : Nat} {spare : Nat → Bool} {held : Bool}

theorem fields_av {n : Nat} (IH : ∀ (s : Sh) (t : TypeId) (cs : List Value) (x : DataW H × List MemPlace), okSh P s t = true → (∀ n ∈ DataW.weights P t x.1, n ≤ 140737488351232) → DataW.trod enc P w base spare held n t cs = some x → Gd s x.1 ∧ cs.length = P.cellsOf t ∧ Vs w (avD s x.1) cs)
    (cs : List Value) : ∀ (ss : List Sh) (fs : List Field) (o : Nat) (xs : List (DataW H × List MemPlace)), okFs P ss fs o cs.length = true → xs.length = fs.length → o ≤ cs.length → (∀ n ∈ DataW.weightsEach P (fs.map (·.type)) (xs.map (·.1)), n ≤ 140737488351232) →
      (∀ (i : Nat) (f : Field), fs[i]? = some f → DataW.trod enc P w base spare held n f.type ((cs.drop f.offset).take (P.cellsOf f.type)) = xs[i]?) →
      GdFs ss (xs.map (·.1)) ∧ Vs w (avFs ss (xs.map (·.1))) (cs.drop o)
  | [], [], o, xs, h, hl, _, _, _ => by
    have : xs = [] := List.length_eq_zero_iff.1 (by simpa using hl)
    subst this
    simp only [okFs, decide_eq_true_eq] at h
    rw [h, List.drop_length]
    exact ⟨rfl, Vs.nil⟩
  | [], _ :: _, _, _, h, _, _, _, _ => by simp [okFs] at h
  | _ :: _, [], _, _, h, _, _, _, _ => by simp [okFs] at h
  | s :: ss, f :: fs, o, xs, h, hl, ho, hw, hx => by
    simp only [okFs, Bool.and_eq_true, decide_eq_true_eq] at h
    obtain ⟨⟨h1, h2⟩, h3⟩ := h
    match xs, hl, hw with
    | x :: xs, hl, hw =>
      simp only [List.map_cons, DataW.weightsEach, List.mem_append] at hw
      have e0 := hx 0 f rfl
      simp only [List.getElem?_cons_zero] at e0
      obtain ⟨g1, g2, g3⟩ := IH s f.type _ x h2 (fun n hn => hw n (.inl hn)) e0
      rw [h1] at g2 g3
      have g4 : P.cellsOf f.type ≤ cs.length - o := by
        rw [List.length_take, List.length_drop] at g2; omega
      obtain ⟨q1, q2⟩ := fields_av IH cs ss fs (o + P.cellsOf f.type) xs h3 (by simpa using hl) (by omega) (fun n hn => hw n (.inr hn)) fun i f' hf => by
        have := hx (i + 1) f' (by simpa using hf)
        simpa using this
      refine ⟨⟨_, _, rfl, g1, q1⟩, ?_⟩
      have e : cs.drop o = (cs.drop o).take (P.cellsOf f.type) ++ cs.drop (o + P.cellsOf f.type) := by
        rw [← List.drop_drop, List.take_append_drop]
      rw [e]
      exact g3.append q2

theorem elems_av {m : Nat} {s : Sh} {e : TypeId} (IH : ∀ (cs : List Value) (x : DataW H × List MemPlace), (∀ n ∈ DataW.weights P e x.1, n ≤ 140737488351232) → DataW.trod enc P w base spare held m e cs = some x → Gd s x.1 ∧ cs.length = P.cellsOf e ∧ Vs w (avD s x.1) cs) :
    ∀ (xs : List (DataW H × List MemPlace)) (cs : List Value), cs.length = xs.length * P.cellsOf e → (∀ n ∈ DataW.weightsAll P e (xs.map (·.1)), n ≤ 140737488351232) →
      (∀ (i : Nat), i < xs.length → DataW.trod enc P w base spare held m e ((cs.drop (i * P.cellsOf e)).take (P.cellsOf e)) = xs[i]?) →
      (∀ d, d ∈ xs.map (·.1) → Gd s d) ∧ Vs w ((xs.map (·.1)).flatMap (avD s)) cs
  | [], cs, hl, _, _ => by
    have : cs = [] := List.length_eq_zero_iff.1 (by simpa using hl)
    subst this
    exact ⟨fun d h => by simp at h, Vs.nil⟩
  | x :: xs, cs, hl, hw, hx => by
    simp only [List.map_cons, DataW.weightsAll, List.mem_append] at hw
    have e0 := hx 0 (by simp)
    simp only [Nat.zero_mul, List.drop_zero, List.getElem?_cons_zero] at e0
    obtain ⟨g1, g2, g3⟩ := IH _ x (fun n hn => hw n (.inl hn)) e0
    have hl' : (cs.drop (P.cellsOf e)).length = xs.length * P.cellsOf e := by
      rw [List.length_drop, hl, List.length_cons, Nat.add_mul]; omega
    obtain ⟨q1, q2⟩ := elems_av IH xs (cs.drop (P.cellsOf e)) hl' (fun n hn => hw n (.inr hn)) fun i hi => by
      have := hx (i + 1) (by simpa using hi)
      rw [List.getElem?_cons_succ] at this
      rw [← this, List.drop_drop, Nat.add_mul, Nat.one_mul, Nat.add_comm]
    refine ⟨fun d hd => ?_, ?_⟩
    · simp only [List.map_cons, List.mem_cons] at hd
      rcases hd with rfl | hd
      · exact g1
      · exact q1 d hd
    · rw [← List.take_append_drop (P.cellsOf e) cs]
      simp only [List.map_cons, List.flatMap_cons]
      exact g3.append q2

theorem weights_all {e : TypeId} : ∀ {l : List (DataW H)} {y : DataW H}, y ∈ l → ∀ n ∈ DataW.weights P e y, n ∈ DataW.weightsAll P e l
  | a :: l, y, hy, n, hn => by
    simp only [DataW.weightsAll, List.mem_append]
    rcases List.mem_cons.1 hy with rfl | hy
    · exact .inl hn
    · exact .inr (weights_all hy n hn)

theorem cell_spot {a : Addr} {v : Value} (h : w.cell? a = some v) : a.spot = none := by
  unfold World.cell? at h
  split at h
  · split at h
    · cases h
    · rename_i h'; simpa using h'
  · cases h

/-- What a reading tells of the cells. -/
theorem trod_av : ∀ (fuel : Nat) (s : Sh) (t : TypeId) (cs : List Value) (x : DataW H × List MemPlace), okSh P s t = true → (∀ n ∈ DataW.weights P t x.1, n ≤ 140737488351232) → DataW.trod enc P w base spare held fuel t cs = some x → Gd s x.1 ∧ cs.length = P.cellsOf t ∧ Vs w (avD s x.1) cs := by
  intro fuel
  induction fuel with
  | zero => intro s t cs x _ _ h; simp [DataW.trod] at h
  | succ n ih =>
    intro s t cs x hs hw h
    cases s with
    | int k =>
      simp only [okSh] at hs
      split at hs
      · rename_i k' hk
        simp only [Bool.and_eq_true, decide_eq_true_eq] at hs
        obtain ⟨rfl, h1⟩ := hs
        obtain ⟨m, rfl, rfl, hwf⟩ := DataW.trod_int hk h
        refine ⟨by simp only [Gd]; exact ⟨m, rfl, hwf⟩, by simp [h1], ?_⟩
        simp only [avD]
        exact Vs.one rfl (.int _ _)
      · cases hs
    | bool =>
      simp only [okSh] at hs
      split at hs
      · rename_i hk
        simp only [decide_eq_true_eq] at hs
        obtain ⟨b, rfl, rfl⟩ := DataW.trod_bool hk h
        refine ⟨by simp only [Gd]; exact ⟨b, rfl⟩, by simp [hs], ?_⟩
        simp only [avD]
        exact Vs.one rfl (.bool _)
      · cases hs
    | str =>
      simp only [okSh] at hs
      split at hs
      · rename_i hk
        simp only [decide_eq_true_eq] at hs
        obtain ⟨b, rfl, rfl, hb⟩ := DataW.trod_string hk h
        refine ⟨by simp only [Gd]; exact ⟨_, rfl, hw _ (by simp [DataW.weights])⟩, by simp [hs], ?_⟩
        simp only [avD]
        exact Vs.one rfl (.str _)
      · cases hs
    | sl z s =>
      simp only [okSh] at hs
      split at hs
      · rename_i e hk
        simp only [Bool.and_eq_true, decide_eq_true_eq] at hs
        obtain ⟨⟨⟨⟨h1, h2⟩, h3⟩, h5⟩, h4⟩ := hs
        rcases DataW.trod_slice hk h with ⟨rfl, rfl⟩ | ⟨a, len, cap, elems, rest, m, hm, rfl, rfl, hb, hl, hmx, hlen, hel, _, _⟩
        · refine ⟨by simp only [Gd]; exact .inl trivial, by simp [h1], ?_⟩
          simp only [avD]
          exact Vs.one rfl (.rs0 _ _ _)
        · obtain rfl : n = m := by omega
          simp only [DataW.weights, hk, List.mem_cons, List.mem_append] at hw
          have hwe : ∀ y ∈ elems.map (·.1), ∀ n ∈ DataW.weights P e y, n ≤ 140737488351232 := fun y hy n hn => hw n (.inr (.inl (weights_all hy n hn)))
          have hsz : len ≤ 140737488351232 := by
            have h1 := hw _ (.inl rfl)
            simp only [List.length_map, hlen] at h1
            have h2 : 1 ≤ P.bytesOf e := by omega
            have h3 := Nat.mul_le_mul_left (len + rest.length) h2
            omega
          have each : ∀ i y, elems[i]? = some y → ∃ cs', w.cells? base (a.add (i * z)) z = some cs' ∧ Gd s y.1 ∧ cs'.length = z ∧ Vs w (avD s y.1) cs' := by
            intro i y hy
            have hi : i < len := by rw [← hlen]; exact (List.getElem?_eq_some_iff.1 hy).1
            have := hel i hi
            rw [hy, h2, Option.bind_eq_some_iff] at this
            obtain ⟨cs', q1, q2⟩ := this
            obtain ⟨r1, r2, r3⟩ := ih s e cs' y h4 (hwe _ (List.mem_map.2 ⟨y, List.mem_of_getElem? hy, rfl⟩)) q2
            exact ⟨cs', q1, r1, r2.trans h2, r3⟩
          refine ⟨?_, by simp [h1], ?_⟩
          · simp only [Gd]
            refine .inr ⟨_, _, rfl, by simpa [hlen] using hsz, fun d hd => ?_⟩
            obtain ⟨y, hy, rfl⟩ := List.mem_map.1 hd
            obtain ⟨i, hi⟩ := List.getElem?_of_mem hy
            obtain ⟨_, _, g, _⟩ := each i y hi
            exact g
          · simp only [avD]
            refine Vs.one rfl ?_
            by_cases h0 : len = 0
            · have : elems = [] := List.length_eq_zero_iff.1 (by omega)
              subst this
              subst h0
              exact .rs0 _ _ _
            · have hy0 : elems[0]? = some elems[0] := by simp
              obtain ⟨cs0, c1, _, c2, _⟩ := each 0 _ hy0
              obtain ⟨_, _, c3⟩ := World.cells?_some c1
              have c4 := c3 0 (by omega)
              have hc0 : cs0[0]? = some cs0[0] := by simp
              rw [hc0] at c4
              have e0 : (a.add (0 * z)).add 0 = a := by simp [Addr.add]
              rw [e0] at c4
              have hsp := cell_spot c4
              have hbk := World.block_lt_of_cell? w _ c4
              obtain ⟨ab, ao, as⟩ := a
              simp only at hsp
              subst hsp
              have hadd : ∀ j o, ((⟨ab, ao, none⟩ : Addr).add (j * z)).add o = ⟨ab, ao + j * z + o, none⟩ := by
                intro j o
                unfold Addr.add
                split <;> split <;> simp_all [Nat.add_assoc]
              have main : ∀ (j : Nat) (el : List AV) (o : Nat) (v : AV), ((elems.map (·.1)).map (avD s))[j]? = some el → el[o]? = some v →
                  ∃ c, w.cell? ⟨ab, ao + j * z + o, none⟩ = some c ∧ c.oneCell' = true ∧ CR w (Sall w) v c := by
                intro j el o v he hv
                simp only [List.map_map, List.getElem?_map, Option.map_eq_some_iff] at he
                obtain ⟨y, hy, rfl⟩ := he
                obtain ⟨cs', q1, _, q2, q3⟩ := each j y hy
                simp only [Function.comp] at hv
                obtain ⟨c, r1, r2, r3⟩ := q3.2 o v hv
                have ho : o < z := by rw [← q2]; exact (List.getElem?_eq_some_iff.1 r1).1
                obtain ⟨_, _, p3⟩ := World.cells?_some q1
                have p4 := p3 o ho
                rw [r1, hadd] at p4
                exact ⟨c, p4, r2, r3⟩
              have hln : ((elems.map (·.1)).map (avD s)).length = len := by simp [hlen]
              have key := CR.rs (w := w) (S := Sall w) z ((elems.map (·.1)).map (avD s)) ab ao cap (fun j o => (w.cell? ⟨ab, ao + j * z + o, none⟩).getD undef) hbk (by rw [hln]; exact hl)
                (fun j el o v he hv => by obtain ⟨c, r1, r2, _⟩ := main j el o v he hv; simp only [r1, Option.getD_some]; exact ⟨trivial, r2⟩)
                (fun j el o v he hv => by obtain ⟨c, r1, _, r2⟩ := main j el o v he hv; simp only [r1, Option.getD_some]; exact r2)
              rw [hln] at key
              exact key
      · cases hs
    | st ss =>
      simp only [okSh] at hs
      split at hs
      · rename_i fs hk
        obtain ⟨xs, m, hm, rfl, hl, hlen, hf⟩ := DataW.trod_struct hk h
        obtain rfl : n = m := by omega
        rw [← hl] at hs
        obtain ⟨q1, q2⟩ := fields_av ih cs ss fs.toList 0 xs hs (by simpa using hlen) (Nat.zero_le _) (by simp only [DataW.weights, hk] at hw; exact hw) fun i f hi => hf i f (by simpa using hi)
        refine ⟨by simp only [Gd]; exact ⟨_, rfl, q1⟩, hl, ?_⟩
        simp only [avD]
        simpa using q2
      · cases hs
    | arr k s =>
      simp only [okSh] at hs
      split at hs
      · rename_i k' e hk
        simp only [Bool.and_eq_true, decide_eq_true_eq] at hs
        obtain ⟨⟨rfl, h1⟩, h2⟩ := hs
        obtain ⟨xs, m, hm, rfl, hl, hlen, hf⟩ := DataW.trod_array hk h
        obtain rfl : n = m := by omega
        obtain ⟨q1, q2⟩ := elems_av (fun cs x hn hx => ih s e cs x h2 hn hx) xs cs (by rw [hl, h1, hlen]) (by simp only [DataW.weights, hk] at hw; exact hw) fun i hi => hf i (by omega)
        refine ⟨by simp only [Gd]; exact ⟨_, rfl, by simp [hlen], q1⟩, hl, ?_⟩
        simp only [avD]
        exact q2
      · cases hs

/-- The abstract value of an argument. -/
def argA (s : Sh) (d : DataW H) : AV := match s with
  | .st _ => .agg (avD s d)
  | .arr _ _ => .agg (avD s d)
  | _ => (avD s d).headD .und

theorem one_cells {v : Value} {t : TypeId} {r : Go.Reach} (hu : ∀ fs n e, P.underlying t ≠ some (.struct fs) ∧ P.underlying t ≠ some (.array n e)) (h : Value.okWide P w r base t v) : v.cells = #[v] := by
  unfold Value.okWide at h
  split at h
  · rename_i fs hh; exact absurd hh (hu _ 0 0).1
  · rename_i hh; exact absurd hh (hu #[] _ _).2
  · cases v <;> first | rfl | (unfold Cell.okWide Cell.ok at h; split at h <;> simp_all)

theorem arg_av {s : Sh} {t : TypeId} {r : Go.Reach} {base' : Nat} {v : Value} {d : DataW H} {ps : List MemPlace} (hs : okSh P s t = true) (hv : Value.okWide P w r base' t v) (hw : ∀ n ∈ DataW.weights P t d, n ≤ 140737488351232) (h : DataW.Trod enc P w base spare held t v d ps) :
    Gd s d ∧ CR w (Sall w) (argA s d) v := by
  obtain ⟨fuel, hf⟩ := h
  obtain ⟨g1, g2, g3⟩ := trod_av fuel s t _ (d, ps) hs hw hf
  refine ⟨g1, ?_⟩
  have hone : (∀ fs n e, P.underlying t ≠ some (.struct fs) ∧ P.underlying t ≠ some (.array n e)) → CR w (Sall w) ((avD s d).headD .und) v := fun hu => by
    have e := one_cells (w := w) (r := r) hu hv
    rw [e] at g3
    obtain ⟨l1, l2⟩ := g3
    match hl : avD s d, l1 with
    | [u], _ =>
      obtain ⟨c, hc, _, q⟩ := l2 0 u (by simp [hl])
      simp at hc; subst hc
      exact q
  have hagg : (∃ cs, v = .agg cs) → CR w (Sall w) (.agg (avD s d)) v := fun ⟨cs, e⟩ => by
    subst e
    refine .agg _ cs (by simpa [Value.cells] using g3.1.symm) (fun j u hu => ?_) (fun j u hu => ?_)
    · obtain ⟨c, hc, q, _⟩ := g3.2 j u hu
      have : cs[j]? = some c := by simpa [Value.cells] using hc
      simp [this, q]
    · obtain ⟨c, hc, _, q⟩ := g3.2 j u hu
      have : cs[j]? = some c := by simpa [Value.cells] using hc
      simp [this, q]
  cases s with
  | st ss =>
    simp only [okSh] at hs
    split at hs
    · rename_i fs hk
      refine hagg ?_
      unfold Value.okWide at hv
      rw [hk] at hv
      obtain ⟨cs, e, _⟩ := hv
      exact ⟨cs, e⟩
    · cases hs
  | arr n s =>
    simp only [okSh] at hs
    split at hs
    · rename_i hk
      refine hagg ?_
      unfold Value.okWide at hv
      rw [hk] at hv
      obtain ⟨cs, e, _⟩ := hv
      exact ⟨cs, e⟩
    · cases hs
  | _ =>
    refine hone fun fs n e => ?_
    simp only [okSh] at hs
    split at hs
    · rename_i hk; rw [hk]; exact ⟨by simp, by simp⟩
    · cases hs

end

/-! ### What is read, as plain data -/

theorem rd_int {k : IntKind} (d : DataW H) (h : Gd (.int k) d) : ∃ n : Int, (Lit.int k n).wf = true ∧ avD (.int k) d = [.int k n] := by
  simp only [Gd] at h
  obtain ⟨n, rfl, hw⟩ := h
  exact ⟨n, hw, by simp only [avD]⟩

theorem rd_bool (d : DataW H) (h : Gd .bool d) : ∃ b : Bool, avD .bool d = [.bool b] := by
  simp only [Gd] at h
  obtain ⟨n, rfl⟩ := h
  exact ⟨n, by simp only [avD]⟩

theorem rd_list {α : Type} {s : Sh} (R : α → Prop) (f : α → List AV) (hs : ∀ d : DataW H, Gd s d → ∃ x, R x ∧ avD s d = f x) : ∀ els : List (DataW H), (∀ x, x ∈ els → Gd s x) →
    ∃ xs : List α, xs.length = els.length ∧ (∀ x ∈ xs, R x) ∧ els.map (avD s) = xs.map f
  | [], _ => ⟨[], rfl, fun x h => by simp at h, rfl⟩
  | d :: els, h => by
    obtain ⟨x, h1, h2⟩ := hs d (h d (by simp))
    obtain ⟨xs, q1, q2, q3⟩ := rd_list R f hs els fun x hx => h x (by simp [hx])
    exact ⟨x :: xs, by simp [q1], fun y hy => by
      rcases List.mem_cons.1 hy with rfl | hy
      · exact h1
      · exact q2 y hy, by simp [h2, q3]⟩

theorem rd_sl {α : Type} {z : Nat} {s : Sh} (R : α → Prop) (f : α → List AV) (hs : ∀ d : DataW H, Gd s d → ∃ x, R x ∧ avD s d = f x) (d : DataW H) (h : Gd (.sl z s) d) :
    ∃ xs : List α, (xs.length ≤ 140737488351232 ∧ ∀ x ∈ xs, R x) ∧ avD (.sl z s) d = [.rs z (xs.map f)] := by
  simp only [Gd] at h
  rcases h with rfl | ⟨els, sp, rfl, hl, hg⟩
  · exact ⟨[], ⟨by simp, fun x h => by simp at h⟩, by simp [avD]⟩
  · obtain ⟨xs, q1, q2, q3⟩ := rd_list R f hs els hg
    exact ⟨xs, ⟨by omega, q2⟩, by simp only [avD]; rw [q3]⟩

theorem rd_arr {α : Type} {n : Nat} {s : Sh} (R : α → Prop) (f : α → List AV) (hs : ∀ d : DataW H, Gd s d → ∃ x, R x ∧ avD s d = f x) (d : DataW H) (h : Gd (.arr n s) d) :
    ∃ xs : List α, (xs.length = n ∧ ∀ x ∈ xs, R x) ∧ avD (.arr n s) d = xs.flatMap f := by
  simp only [Gd] at h
  obtain ⟨ps, rfl, hl, hg⟩ := h
  obtain ⟨xs, q1, q2, q3⟩ := rd_list R f hs ps hg
  exact ⟨xs, ⟨by omega, q2⟩, by simp only [avD]; rw [List.flatMap_def, q3, List.flatMap_def]⟩

theorem gd_len : ∀ (ss : List Sh) (ds : List (DataW H)), GdFs ss ds → ds.length = ss.length
  | [], ds, h => by simp only [GdFs] at h; subst h; rfl
  | s :: ss, ds, h => by
    simp only [GdFs] at h
    obtain ⟨d, r, rfl, _, h2⟩ := h
    simp [gd_len ss r h2]

theorem rd_nil (ds : List (DataW H)) (h : GdFs [] ds) : avFs [] ds = [] := by simp only [GdFs] at h; subst h; simp [avFs]
theorem rd_cons {s : Sh} {ss : List Sh} (ds : List (DataW H)) (h : GdFs (s :: ss) ds) : ∃ (d : DataW H) (r : List (DataW H)), Gd s d ∧ GdFs ss r ∧ avFs (s :: ss) ds = avD s d ++ avFs ss r := by
  simp only [GdFs] at h
  obtain ⟨d, r, rfl, h1, h2⟩ := h
  exact ⟨d, r, h1, h2, by simp only [avFs]⟩
theorem rd_st {ss : List Sh} (d : DataW H) (h : Gd (.st ss) d) : ∃ ps : List (DataW H), GdFs ss ps ∧ avD (.st ss) d = avFs ss ps := by
  simp only [Gd] at h
  obtain ⟨ps, rfl, h1⟩ := h
  exact ⟨ps, h1, by simp only [avD]⟩

end

/-- The arguments of a call, as abstract values. -/
def argAs {H : Type} : List Sh → List (DataW H) → List AV
  | s :: ss, d :: ds => argA s d :: argAs ss ds
  | _, _ => []

def okShs (P : Program) : List Sh → List TypeId → Bool
  | [], [] => true
  | s :: ss, t :: ts => okSh P s t && decide (P.readableRec t = true) && decide (t < P.types.size) && okShs P ss ts
  | _, _ => false

theorem hrf_start (w : World) : HRF w (Sall w) (fun _ => none) (get []) :=
  ⟨fun _ h => h, fun _ _ => rfl, ⟨fun i o _ h => by simp [get] at h, fun i j oi oj b z z' c c' _ _ _ h => by simp [get] at h⟩⟩

/-- A law's contract: what it says to the row. -/
theorem fc_row {P : Program} {f : FuncId} {args : List AV} {r : AV} {al : Bool} {c : Value} (h : FC P f args [] r [] al) {w : World} {cargs : Array Value} (ha : VRs w (Sall w) (fun _ => none) args cargs) (hr : ∀ (w' : World) S ρ cv, VR w' S ρ r cv → cv = c) :
    Calls P f cargs w fun e w' => e = .returned c ∧ Below w.heap.size w w' :=
  (h w (Sall w) (fun _ => none) cargs (hrf_start w) ha).mono fun e w' ⟨cv, S', ρ', he, hv, _, hk, _⟩ => by
    have hc := hr w' S' ρ' cv hv
    subst hc
    refine ⟨he, hk.os, hk.tape, hk.output, hk.size, fun k hlt => hk.block k hlt ?_⟩
    rintro ⟨i, ob, z, cap, _, h0, _⟩
    simp [get] at h0

section
variable {H : Type} {enc : TypeId × Value → H} {P : Program} {W : World} {base : Nat} {r : Go.Reach}

theorem args_av : ∀ (ss : List Sh) (ts : List TypeId) (vs : List Value) (ds : List (DataW H)) (p : List MemPlace), okShs P ss ts = true → DataW.TrodAll enc P W 0 (fun _ => true) true ts vs ds p →
    (∀ (j : Nat) (t : TypeId) (v : Value), ts[j]? = some t → vs[j]? = some v → Value.okWide P W r base t v) → (∀ n ∈ DataW.weightsEach P ts ds, n ≤ 140737488351232) →
    GdFs ss ds ∧ (argAs ss ds).length = vs.length ∧ ∀ (j : Nat) (a : AV) (c : Value), (argAs ss ds)[j]? = some a → vs[j]? = some c → CR W (Sall W) a c
  | [], [], vs, ds, p, _, h, _, _ => by
    obtain ⟨rfl, rfl, rfl⟩ := trodAll_nil h
    exact ⟨rfl, rfl, fun j a c h => by simp [argAs] at h⟩
  | [], _ :: _, _, _, _, h, _, _, _ => by simp [okShs] at h
  | _ :: _, [], _, _, _, h, _, _, _ => by simp [okShs] at h
  | s :: ss, t :: ts, vs, ds, p, h, hA, hv, hw => by
    obtain ⟨v, vs, d, ds, p0, q0, rfl, rfl, rfl, h0, r0⟩ := trodAll_cons hA
    simp only [okShs, Bool.and_eq_true] at h
    simp only [DataW.weightsEach, List.mem_append] at hw
    obtain ⟨g1, g2⟩ := arg_av (r := r) (base' := base) (v := v) (d := d) (ps := p0) (enc := enc) (w := W) h.1.1.1 (hv 0 t v rfl rfl) (fun n hn => hw n (.inl hn)) h0
    obtain ⟨q1, q2, q3⟩ := args_av ss ts vs ds q0 h.2 r0 (fun j t v h1 h2 => hv (j + 1) t v (by simpa using h1) (by simpa using h2)) fun n hn => hw n (.inr hn)
    refine ⟨⟨_, _, rfl, g1, q1⟩, by simp [argAs, q2], fun j a c ha hc => ?_⟩
    cases j with
    | zero => simp [argAs] at ha hc; subst ha; subst hc; exact g2
    | succ j => exact q3 j a c (by simpa [argAs] using ha) (by simpa using hc)

theorem args_back (hl : laidOutB P = true) {W' : World} (hb : Below W.heap.size W W') : ∀ (ss : List Sh) (ts : List TypeId) (vs : List Value) (ds : List (DataW H)) (p : List MemPlace), okShs P ss ts = true → DataW.TrodAll enc P W 0 (fun _ => true) true ts vs ds p →
    DataW.TrodAll enc P W' 0 (fun b => decide (b < W.heap.size)) true ts vs ds p
  | [], [], vs, ds, p, _, h => by
    obtain ⟨rfl, rfl, rfl⟩ := trodAll_nil h
    exact trodAll_mk0
  | [], _ :: _, _, _, _, h, _ => by simp [okShs] at h
  | _ :: _, [], _, _, _, h, _ => by simp [okShs] at h
  | s :: ss, t :: ts, vs, ds, p, h, hA => by
    obtain ⟨v, vs, d, ds, p0, q0, rfl, rfl, rfl, h0, r0⟩ := trodAll_cons hA
    simp only [okShs, Bool.and_eq_true, decide_eq_true_eq] at h
    have lt0 : ∀ x ∈ p0, x.block < W.heap.size := by obtain ⟨m, hm⟩ := h0; exact DataW.trod_lt m _ _ _ hm
    exact trodAll_cons_mk (Below.trod hl h.1.1.2 h.1.2 h0 hb lt0) (args_back hl hb ss ts vs ds q0 h.2 r0)
end

/-- From a law's contract to its row. -/
theorem law_row {C : Checked} {os : Os} {f : FuncId} {fn : Func} {s : ChangeSpec} {H : Type} {enc : TypeId × Value → H} {tb : TypeId} {apart : Bool} (own : ownKnob C.prog.godebug = none) (started : os.Started) (noInit : C.prog.inits.idxOf? f = none) (hfn : C.prog.funcs[f]? = some fn)
    (hl : laidOutB C.prog = true) (hvars : s.vars = []) (hr : fn.resultTypes = #[tb]) (htb : C.prog.underlying tb = some .bool) (ss : List Sh) (hss : okShs C.prog ss fn.params.toList = true)
    (hspec : ∀ ds : List (DataW H), ds.length = ss.length → s.fn H ds = { results := [.lit (.bool true)], args := ds, vars := [] })
    (witness : ∃ (w : World) (tape : Tape) (i : Input), w.os = os ∧ (w.forCall tape i).Shaped C.prog ∧ i.vars = [] ∧ Input.okWide C.prog (w.forCall tape i) .any w.heap.size f i ∧
      s.pre6 enc C.prog fn [] apart (w.forCall tape i).memory i.args ∧ ({} : Assume).holds C.prog (lone (Frame.enter C.prog f i.args .normal) [] (w.forCall tape i)))
    (hfc : ∀ ds : List (DataW H), GdFs ss ds → ∃ al, FC C.prog f (argAs ss ds) [] (.bool true) [] al) :
    ReturnsInHanded {} C os f .any (s.pre6 enc C.prog fn [] apart) (s.post enc C.prog fn apart true false false) := by
  refine returnsInHanded_of_change_sized (C := C) own started noInit hfn witness ?_
  intro W base args ds gs before hval hW _ hsz _
  have hW' := hW
  obtain ⟨p, q, hA, hV, rfl, hfz, hnd⟩ := hW
  rw [hvars] at hV
  obtain ⟨rfl, rfl⟩ := trodVars_none hV
  have hw : ∀ n ∈ DataW.weightsEach C.prog fn.params.toList ds, n ≤ 140737488351232 := fun n hn => by
    have hvt : s.plain.varTypes C.prog = [] := by
      show DataSpec.varTypes C.prog s.plain = []
      unfold DataSpec.varTypes
      simp [ChangeSpec.plain, hvars]
    rw [hvt] at hsz
    simp only [List.append_nil] at hsz
    have := List.all_eq_true.1 hsz n hn
    exact (of_decide_eq_true this : n ≤ reachBytes)
  obtain ⟨g1, g2, g3⟩ := args_av (r := .any) (base := base) ss fn.params.toList args.toList ds p hss hA (fun j t v h1 h2 => hval j t v (by simpa using h1) (by simpa using h2)) hw
  obtain ⟨al, hc⟩ := hfc ds g1
  have hvr : VRs W (Sall W) (fun _ => none) (argAs ss ds) args := ⟨by simpa using g2.symm, fun j v hv => .cl (by
    have hj : j < args.size := by
      have := (List.getElem?_eq_some_iff.1 hv).1
      rw [g2] at this; simpa using this
    have e : args.getD j undef = args[j] := by simp [hj]
    rw [e]
    exact g3 j v _ hv (by simp [hj]))⟩
  refine (fc_row (c := .bool true) hc hvr fun w' S ρ cv hv => hv.bool_inv).mono fun e W' ⟨he, bel⟩ => ?_
  subst he
  have hln : ds.length = ss.length := gd_len ss ds g1
  have hsp := hspec ds hln
  have hps : DataW.TrodAll enc C.prog W' W.heap.size (fun _ => false) false fn.resultTypes.toList ((Value.bool true).resultList fn.resultTypes.size) [.lit (.bool true)] [] := by
    rw [hr]
    exact trodAll_mk1 (shut_bool htb _)
  refine ⟨_, rfl, ds, [], _, [], p, [], hW', ?_, ?_, ?_, bel.frame _, fun h => by cases h⟩
  · rw [List.append_nil, hsp]; exact hps
  · rw [List.append_nil, hsp]; exact args_back hl bel ss _ _ _ _ hss hA
  · rw [List.append_nil, hsp, hvars]; rfl

end Go.Proofs.YteommcdafifckaaDoor
