/-
  A contract under other names.
-/
import Derived.Test.YtadjdnhnbkcakaaL21
namespace Go.Proofs.Ytadjdnhnbkcakaa
open Go.RowKit

/-- The exchange of two names. -/
def swp (a b : Nat) (k : Nat) : Nat := if k = a then b else if k = b then a else k
theorem swp_swp (a b k : Nat) : swp a b (swp a b k) = k := by
  unfold swp
  split
  · rename_i h; subst h
    split
    · rename_i h; exact h
    · simp
  · rename_i h1
    split
    · rename_i h2; subst h2; simp
    · rename_i h2; simp [h1, h2]

inductive RenV (σ : Nat → Nat) : AV → AV → Prop where
  | closed {v : AV} (h : scopedV [] v = true) : RenV σ v v
  | ptr {i i' j o : Nat} (h : σ i = i') : RenV σ (.ptr i j o) (.ptr i' j o)
  | sl {i i' j n : Nat} (h : σ i = i') : RenV σ (.sl i j n) (.sl i' j n)
  | sa {i i' j o n : Nat} (h : σ i = i') : RenV σ (.sa i j o n) (.sa i' j o n)
  | mp {i i' : Nat} (h : σ i = i') : RenV σ (.mp i) (.mp i')
  | fn {f : Fn} {cs cs' : List AV} (hl : cs.length = cs'.length) (h : ∀ (j : Nat) (v v' : AV), cs[j]? = some v → cs'[j]? = some v' → RenV σ v v') : RenV σ (.fn f cs) (.fn f cs')
  | agg {cs cs' : List AV} (hl : cs.length = cs'.length) (h : ∀ (j : Nat) (v v' : AV), cs[j]? = some v → cs'[j]? = some v' → RenV σ v v') : RenV σ (.agg cs) (.agg cs')
  | tup {cs cs' : List AV} (hl : cs.length = cs'.length) (h : ∀ (j : Nat) (v v' : AV), cs[j]? = some v → cs'[j]? = some v' → RenV σ v v') : RenV σ (.tup cs) (.tup cs')

theorem RenV.symm {σ : Nat → Nat} (hσ : ∀ k, σ (σ k) = k) {v v' : AV} (h : RenV σ v v') : RenV σ v' v := by
  induction h with
  | closed h => exact .closed h
  | ptr h => exact .ptr (by rw [← h, hσ])
  | sl h => exact .sl (by rw [← h, hσ])
  | sa h => exact .sa (by rw [← h, hσ])
  | mp h => exact .mp (by rw [← h, hσ])
  | fn hl _ ih => exact .fn hl.symm fun j v v' h1 h2 => ih j v' v h2 h1
  | agg hl _ ih => exact .agg hl.symm fun j v v' h1 h2 => ih j v' v h2 h1
  | tup hl _ ih => exact .tup hl.symm fun j v v' h1 h2 => ih j v' v h2 h1

theorem VR.ren {w : World} {S : Nat → Prop} {ρ ρ' : Rho} {σ : Nat → Nat} (hρ : ∀ i, ρ' (σ i) = ρ i) {v v' : AV} (h : RenV σ v v') : ∀ {c : Value}, VR w S ρ v c → VR w S ρ' v' c := by
  have key : ∀ {cs cs' : List AV} {C : Array Value}, cs.length = cs'.length → (∀ (j : Nat) (v v' : AV), cs[j]? = some v → cs'[j]? = some v' → ∀ {c : Value}, VR w S ρ v c → VR w S ρ' v' c) →
      (∀ j v, cs[j]? = some v → VR w S ρ v (C.getD j undef)) → ∀ j v', cs'[j]? = some v' → VR w S ρ' v' (C.getD j undef) := fun {cs cs' C} hl ih h j v' hj => by
    have hlt : j < cs.length := by rw [hl]; exact (List.getElem?_eq_some_iff.1 hj).1
    exact ih j _ v' (List.getElem?_eq_getElem hlt) hj (h j _ (List.getElem?_eq_getElem hlt))
  induction h with
  | closed h => intro c hv; exact hv.scope h (fun i hi => by cases hi)
  | ptr h =>
    rename_i i i' j o
    intro c hv
    obtain ⟨b, z, cap, q1, rfl⟩ := hv.ptr_inv
    exact .ptr i' j o b z cap (by rw [← h, hρ]; exact q1)
  | sl h =>
    rename_i i i' j n
    intro c hv
    rcases hv.sl_inv with ⟨b, z, cap, cap', q1, q2, q3, rfl⟩ | ⟨z, q1, rfl, rfl, rfl⟩
    · exact .sl i' j n b z cap cap' (by rw [← h, hρ]; exact q1) q2 q3
    · exact .sl0 i' z (by rw [← h, hρ]; exact q1)
  | sa h =>
    rename_i i i' j o n
    intro c hv
    cases hv with
    | cl h => cases h
    | sa _ _ _ _ b z cap cap' q1 q2 => exact .sa i' j o n b z cap cap' (by rw [← h, hρ]; exact q1) q2
  | mp h =>
    rename_i i i'
    intro c hv
    cases hv with
    | cl h => cases h
    | mp _ b z cap q1 => exact .mp i' b z cap (by rw [← h, hρ]; exact q1)
  | fn hl _ ih =>
    intro c hv
    obtain ⟨C, rfl, hn, h2⟩ := hv.fn_inv
    exact .fn _ _ C (by rw [hn, hl]) (key hl ih h2)
  | agg hl _ ih =>
    intro c hv
    obtain ⟨C, rfl, hn, h1, h2⟩ := hv.agg_inv
    refine .agg _ C (by rw [hn, hl]) (fun j v' hj => ?_) (key hl ih h2)
    rename_i cs cs' _
    have hlt : j < cs.length := by rw [hl]; exact (List.getElem?_eq_some_iff.1 hj).1
    exact h1 j _ (List.getElem?_eq_getElem hlt)
  | tup hl _ ih =>
    intro c hv
    obtain ⟨C, rfl, hn, h2⟩ := hv.tup_inv
    exact .tup _ C (by rw [hn, hl]) (key hl ih h2)

inductive RenOb (σ : Nat → Nat) : Ob → Ob → Prop where
  | dead : RenOb σ .dead .dead
  | mset {ks : List Int} : RenOb σ (.mset ks) (.mset ks)
  | flat {e z : Nat} {els : List (List AV)} : RenOb σ (.cells e z els true) (.cells e z els true)
  | cells {e z : Nat} {els els' : List (List AV)} {fl : Bool} (hl : els.length = els'.length)
      (h : ∀ (j : Nat) (el el' : List AV), els[j]? = some el → els'[j]? = some el' → el.length = el'.length ∧ ∀ (o : Nat) (v v' : AV), el[o]? = some v → el'[o]? = some v' → RenV σ v v') : RenOb σ (.cells e z els false) (.cells e z els' false)

theorem RenOb.symm {σ : Nat → Nat} (hσ : ∀ k, σ (σ k) = k) {o o' : Ob} (h : RenOb σ o o') : RenOb σ o' o := by
  cases h with
  | dead => exact .dead
  | mset => exact .mset
  | flat => exact .flat
  | cells hl h =>
    refine .cells (fl := false) hl.symm fun j el el' h1 h2 => ?_
    obtain ⟨g1, g2⟩ := h j el' el h2 h1
    exact ⟨g1.symm, fun o v v' k1 k2 => (g2 o v' v k2 k1).symm hσ⟩

theorem RenOb.live {σ : Nat → Nat} {o o' : Ob} (h : RenOb σ o o') : o'.live = o.live := by cases h <;> rfl

theorem OR.ren {w : World} {S : Nat → Prop} {ρ ρ' : Rho} {σ : Nat → Nat} (hρ : ∀ i, ρ' (σ i) = ρ i) {o o' : Ob} (hr : RenOb σ o o') {bk : Option Nat} {z cap : Nat} (h : OR w S ρ o bk z cap) : OR w S ρ' o' bk z cap := by
  cases hr with
  | dead => trivial
  | mset => exact h
  | flat =>
    obtain ⟨hz, h⟩ := h
    refine ⟨hz, ?_⟩
    cases bk with
    | none => exact h
    | some b =>
      obtain ⟨h0, hm, C, hC, h1, h2, h3, h4⟩ := h
      exact ⟨h0, hm, C, hC, h1, h2, h3, fun j el o v he hv => by
        obtain ⟨q1, q2⟩ := h4 j el o v he hv
        rw [if_pos rfl] at q2 ⊢
        exact ⟨q1, q2⟩⟩
  | cells hl hc =>
    rename_i e z0 els els' _
    obtain ⟨hz, h⟩ := h
    refine ⟨hz, ?_⟩
    cases bk with
    | none =>
      obtain ⟨rfl, h2⟩ := h
      exact ⟨List.length_eq_zero_iff.1 hl.symm, h2⟩
    | some b =>
      obtain ⟨h0, hm, C, hC, h1, h2, h3, h4⟩ := h
      have bk_ : ∀ (j : Nat) (el' : List AV), els'[j]? = some el' → ∃ el, els[j]? = some el ∧ el.length = el'.length ∧ ∀ (o : Nat) (v v' : AV), el[o]? = some v → el'[o]? = some v' → RenV σ v v' := fun j el' hj => by
        have hlt : j < els.length := by rw [hl]; exact (List.getElem?_eq_some_iff.1 hj).1
        exact ⟨_, List.getElem?_eq_getElem hlt, hc j _ el' (List.getElem?_eq_getElem hlt) hj⟩
      refine ⟨h0, hm, C, hC, h1, by rw [← hl]; exact h2, fun j el' hj => ?_, fun j el' o v' he hv => ?_⟩
      · obtain ⟨el, g1, g2, _⟩ := bk_ j el' hj
        rw [← g2]; exact h3 j el g1
      · obtain ⟨el, g1, g2, g3⟩ := bk_ j el' he
        have hlt : o < el.length := by rw [g2]; exact (List.getElem?_eq_some_iff.1 hv).1
        obtain ⟨q1, q2⟩ := h4 j el o _ g1 (List.getElem?_eq_getElem hlt)
        rw [if_neg (by simp)] at q2 ⊢
        exact ⟨q1, VR.ren hρ (g3 o _ v' (List.getElem?_eq_getElem hlt) hv) q2⟩

inductive RenH (σ : Nat → Nat) : Hp → Hp → Prop where
  | nil : RenH σ [] []
  | cons {i i' : Nat} {o o' : Ob} {H H' : Hp} (h : σ i = i') (ho : RenOb σ o o') (r : RenH σ H H') : RenH σ ((i, o) :: H) ((i', o') :: H')

theorem RenH.symm {σ : Nat → Nat} (hσ : ∀ k, σ (σ k) = k) {H H' : Hp} (h : RenH σ H H') : RenH σ H' H := by
  induction h with
  | nil => exact .nil
  | cons h ho _ ih => exact .cons (by rw [← h, hσ]) (ho.symm hσ) ih

theorem RenH.at_ {σ : Nat → Nat} (hσ : ∀ k, σ (σ k) = k) {H H' : Hp} (h : RenH σ H H') : ∀ k, (get H k = none ∧ get H' (σ k) = none) ∨ ∃ o o', get H k = some o ∧ get H' (σ k) = some o' ∧ RenOb σ o o' := by
  induction h with
  | nil => intro k; exact .inl ⟨rfl, rfl⟩
  | cons h ho _ ih =>
    rename_i i i' o o' H H' _
    intro k
    subst h
    simp only [get]
    by_cases e : i = k
    · subst e; rw [if_pos rfl, if_pos rfl]; exact .inr ⟨o, o', rfl, rfl, ho⟩
    · rw [if_neg e, if_neg (fun e2 => e (by rw [← hσ i, e2, hσ]))]; exact ih k

theorem HRF.ren {w : World} {S : Nat → Prop} {ρ ρ' : Rho} {σ : Nat → Nat} (hσ : ∀ k, σ (σ k) = k) (hρ : ∀ i, ρ' (σ i) = ρ i) {H H' : Hp} (hr : RenH σ H H') (h : HRF w S ρ (get H)) : HRF w S ρ' (get H') := by
  have hρ' : ∀ i, ρ' i = ρ (σ i) := fun i => by rw [← hρ (σ i), hσ]
  have back : ∀ k o', get H' k = some o' → ∃ o, get H (σ k) = some o ∧ RenOb σ o o' := fun k o' hk => by
    rcases hr.at_ hσ (σ k) with ⟨_, h2⟩ | ⟨o, o1, h1, h2, h3⟩
    · rw [hσ, hk] at h2; cases h2
    · rw [hσ, hk] at h2; injection h2 with h2; subst h2; exact ⟨o, h1, h3⟩
  refine ⟨h.hS, fun i hi => ?_, ⟨fun i o' _ hi => ?_, fun i j oi oj b z z' c c' _ _ hne hi hj hli hlj hri hrj => ?_⟩⟩
  · rw [hρ']
    apply h.dom
    rcases hr.at_ hσ (σ i) with ⟨h1, _⟩ | ⟨o, o1, _, h2, _⟩
    · exact h1
    · rw [hσ, hi] at h2; cases h2
  · obtain ⟨o, g1, g2⟩ := back i o' hi
    obtain ⟨bk, z, cap, q1, q2⟩ := h.at_.ob _ o trivial g1
    exact ⟨bk, z, cap, by rw [hρ']; exact q1, q2.ren hρ g2⟩
  · obtain ⟨a, g1, g2⟩ := back i oi hi
    obtain ⟨b', g3, g4⟩ := back j oj hj
    refine h.at_.dis (σ i) (σ j) a b' b z z' c c' trivial trivial (fun e => hne (by rw [← hσ i, e, hσ])) g1 g3 (by rw [← g2.live]; exact hli) (by rw [← g4.live]; exact hlj) (by rw [← hρ']; exact hri) (by rw [← hρ']; exact hrj)

theorem LiveF.ren {ρ ρ' : Rho} {σ : Nat → Nat} (hσ : ∀ k, σ (σ k) = k) (hρ : ∀ i, ρ' (σ i) = ρ i) {H H' : Hp} (hr : RenH σ H H') {b : Nat} (h : LiveF ρ (get H) All b) : LiveF ρ' (get H') All b := by
  obtain ⟨i, o, z, cap, _, h1, h2, h3⟩ := h
  rcases hr.at_ hσ i with ⟨g1, _⟩ | ⟨o1, o', g1, g2, g3⟩
  · rw [h1] at g1; cases g1
  · rw [h1] at g1; injection g1 with g1; subst g1
    exact ⟨σ i, o', z, cap, trivial, g2, by rw [g3.live]; exact h2, by rw [hρ]; exact h3⟩

inductive RenVs (σ : Nat → Nat) : List AV → List AV → Prop where
  | nil : RenVs σ [] []
  | cons {v v' : AV} {l l' : List AV} (h : RenV σ v v') (r : RenVs σ l l') : RenVs σ (v :: l) (v' :: l')

theorem RenVs.at_ {σ : Nat → Nat} {l l' : List AV} (h : RenVs σ l l') : l.length = l'.length ∧ ∀ (j : Nat) (v v' : AV), l[j]? = some v → l'[j]? = some v' → RenV σ v v' := by
  induction h with
  | nil => exact ⟨rfl, fun j v v' h => by simp at h⟩
  | cons h _ ih =>
    refine ⟨by simp [ih.1], fun j v v' h1 h2 => ?_⟩
    cases j with
    | zero => simp at h1 h2; subst h1 h2; exact h
    | succ j => exact ih.2 j v v' (by simpa using h1) (by simpa using h2)

theorem fc_ren {P : Program} {f : FuncId} {args args' : List AV} {H H1 H' H1' : Hp} {r r1 : AV} {al : Bool} (σ : Nat → Nat) (hσ : ∀ k, σ (σ k) = k) (h : FC P f args H r H' al) (ha : RenVs σ args args') (hH : RenH σ H H1) (hr : RenV σ r r1) (hH' : RenH σ H' H1') : FC P f args' H1 r1 H1' al := by
  intro w S ρ cargs hh hv
  have e1 : ∀ i, (fun k => ρ (σ k)) (σ i) = ρ i := fun i => by simp [hσ]
  obtain ⟨hl, hat⟩ := ha.at_
  refine Calls.mono (h w S (fun k => ρ (σ k)) cargs (hh.ren hσ e1 (hH.symm hσ)) ⟨by rw [hv.1, hl], fun j v hj => ?_⟩) fun e w' ⟨cv, S', ρ', q1, q2, q3, q4, q5, q6, q7, q8⟩ => ?_
  · have hlt : j < args'.length := by rw [← hl]; exact (List.getElem?_eq_some_iff.1 hj).1
    exact VR.ren (σ := σ) e1 ((hat j v _ hj (List.getElem?_eq_getElem hlt)).symm hσ) (hv.2 j _ (List.getElem?_eq_getElem hlt))
  · have e2 : ∀ i, (fun k => ρ' (σ k)) (σ i) = ρ' i := fun i => by simp [hσ]
    have e3 : ∀ i, ρ' (σ i) = (fun k => ρ' (σ k)) i := fun i => rfl
    have e4 : ∀ i, ρ (σ i) = (fun k => ρ (σ k)) i := fun i => rfl
    have back : ∀ i, get H1 i ≠ none → get H (σ i) ≠ none := fun i hi h0 => by
      rcases hH.at_ hσ (σ i) with ⟨_, g2⟩ | ⟨o, o', g1, _, _⟩
      · rw [hσ] at g2; exact hi g2
      · rw [h0] at g1; cases g1
    refine ⟨cv, S', fun k => ρ' (σ k), q1, VR.ren (σ := σ) e2 hr q2, q3.ren hσ e2 hH', q4.mono fun b hb => hb.ren hσ e4 hH, q5, fun b hb => ?_, fun i hi => ?_, fun i hi => ?_⟩
    · exact (q6 b (hb.ren hσ e3 (hH'.symm hσ))).imp (fun hb => hb.ren hσ e4 hH) id
    · show ρ' (σ i) = ρ i
      rw [q7 (σ i) (back i hi)]
      show ρ (σ (σ i)) = ρ i
      rw [hσ]
    · have := q8 (σ i) (back i hi)
      rcases hH'.at_ hσ (σ i) with ⟨g1, _⟩ | ⟨o, o', _, g2, _⟩
      · exact absurd g1 this
      · rw [hσ] at g2; rw [g2]; simp

end Go.Proofs.Ytadjdnhnbkcakaa
