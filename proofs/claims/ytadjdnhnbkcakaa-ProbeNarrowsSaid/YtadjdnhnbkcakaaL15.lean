/-
  A region whose order the tape draws: whatever order its edges allow, the end is the text's.
-/
import Derived.Test.YtadjdnhnbkcakaaL14
namespace Go.Proofs.Ytadjdnhnbkcakaa
open Go.RowKit

/-- The text's run, number by number. -/
structure RunD (P : Program) (N : Nat) (ops : Array Oper) (l : List Oper) (L : List (MOper × Fp)) (Fs : Nat → List (Nat × AV)) (Hs : Nat → List (Nat × Ob)) (vs : Nat → AV) : Prop where
  len : L.length = l.length
  step : ∀ j y, L[j]? = some y → ∃ o, l[j]? = some o ∧ compOper P N ops o = some y.1 ∧ StepM P N ops o y.1 (Fs j) (Hs j) y.2.1 y.2.2 (vs j) (Hs (j + 1)) ∧ Fs (j + 1) = putF (Fs j) y.1.dst (vs j)

theorem SeqM.data {P : Program} {N : Nat} {ops : Array Oper} {l : List Oper} {ml : List MOper} {F F' : List (Nat × AV)} {H H' : List (Nat × Ob)} {fps : List Fp} (hs : SeqM P N ops l ml F H fps F' H') :
    ml.length = l.length ∧ fps.length = l.length ∧ ∃ Fs Hs vs, Fs 0 = F ∧ Hs 0 = H ∧ Fs l.length = F' ∧ Hs l.length = H' ∧ RunD P N ops l (ml.zip fps) Fs Hs vs := by
  induction hs with
  | nil F H => exact ⟨rfl, rfl, fun _ => F, fun _ => H, fun _ => .und, rfl, rfl, rfl, rfl, rfl, fun j y h => by simp at h⟩
  | cons hc hs _ ih =>
    rename_i o mo l ml F H rd wr v H1 fps F' H' hrest
    obtain ⟨e1, e2, Fs, Hs, vs, f0, h0, fn, hn, hr⟩ := ih
    refine ⟨by simp [e1], by simp [e2], fun j => match j with | 0 => F | j + 1 => Fs j, fun j => match j with | 0 => H | j + 1 => Hs j, fun j => match j with | 0 => v | j + 1 => vs j, rfl, rfl, fn, hn, by simp [e1, e2], fun j y hj => ?_⟩
    cases j with
    | zero =>
      simp at hj; subst hj
      exact ⟨o, rfl, hc, by simpa [h0] using hs, by simpa using f0⟩
    | succ j =>
      obtain ⟨o', g1, g2, g3, g4⟩ := hr.step j y (by simpa using hj)
      exact ⟨o', by simpa using g1, g2, by simpa using g3, by simpa using g4⟩

section
variable {P : Program} {N : Nat} {ops : Array Oper} {l : List Oper} {L : List (MOper × Fp)} {Fs : Nat → List (Nat × AV)} {Hs : Nat → List (Nat × Ob)} {vs : Nat → AV}

theorem RunD.at_ (hr : RunD P N ops l L Fs Hs vs) {j : Nat} (hj : j < l.length) : ∃ y, L[j]? = some y := ⟨L[j]'(by rw [hr.len]; exact hj), List.getElem?_eq_getElem _⟩

/-- Between two numbers, where nothing writes the slot. -/
theorem RunD.slot_same (hr : RunD P N ops l L Fs Hs vs) {t a : Nat} : ∀ (n : Nat), a + n ≤ l.length → (∀ k y, a ≤ k → k < a + n → L[k]? = some y → y.1.dst ≠ some t) → get (Fs (a + n)) t = get (Fs a) t
  | 0, _, _ => rfl
  | n + 1, hn, h => by
    obtain ⟨y, hy⟩ := hr.at_ (j := a + n) (by omega)
    obtain ⟨o, _, _, _, e⟩ := hr.step _ y hy
    rw [show a + (n + 1) = a + n + 1 by omega, e, get_putF, if_neg fun h' => h (a + n) y (by omega) (by omega) hy h'.symm]
    exact RunD.slot_same hr n (by omega) fun k y h1 h2 => h k y h1 (by omega)

theorem RunD.name_same (hr : RunD P N ops l L Fs Hs vs) {i a : Nat} : ∀ (n : Nat), a + n ≤ l.length → (∀ k y, a ≤ k → k < a + n → L[k]? = some y → i ∉ y.2.2) → get (Hs (a + n)) i = get (Hs a) i
  | 0, _, _ => rfl
  | n + 1, hn, h => by
    obtain ⟨y, hy⟩ := hr.at_ (j := a + n) (by omega)
    obtain ⟨o, _, _, hs, _⟩ := hr.step _ y hy
    rw [show a + (n + 1) = a + n + 1 by omega, hs.off i (h (a + n) y (by omega) (by omega) hy)]
    exact RunD.name_same hr n (by omega) fun k y h1 h2 => h k y h1 (by omega)

/-- What 'okDraw' has found of two operations. -/
theorem okDraw_pair (h : okDraw L = true) {j k : Nat} {x y : MOper × Fp} (hk : L[k]? = some x) (hj : L[j]? = some y) (hkj : k < j) (hc : clashes x y = true) :
    ((masks (L.map (·.1.pre)) []).getD j 0).testBit k = true := by
  unfold okDraw at h
  have h1 := List.all_eq_true.1 h (y, j) (by rw [List.mk_mem_zipIdx_iff_getElem?]; exact hj)
  simp only [okRow, Bool.and_eq_true] at h1
  have h2 := List.all_eq_true.1 h1.2 (x, k) (by rw [List.mk_mem_zipIdx_iff_getElem?]; exact hk)
  simpa [hkj, hc] using h2

theorem okDraw_pre (h : okDraw L = true) {j : Nat} {y : MOper × Fp} (hj : L[j]? = some y) : ∀ k, k ∈ y.1.pre → k < j := by
  unfold okDraw at h
  have h1 := List.all_eq_true.1 h (y, j) (by rw [List.mk_mem_zipIdx_iff_getElem?]; exact hj)
  simp only [okRow, Bool.and_eq_true] at h1
  intro k hk
  simpa using List.all_eq_true.1 h1.1 k hk

/-- A set that holds, with each operation, those that must come before it. -/
def Shut (L : List (MOper × Fp)) (E : Nat → Prop) : Prop := ∀ j y, L[j]? = some y → E j → ∀ k, k ∈ y.1.pre → E k

theorem Shut.mask {E : Nat → Prop} (h : Shut L E) {j b : Nat} (hb : ((masks (L.map (·.1.pre)) []).getD j 0).testBit b = true) (hE : E j) : E b := by
  refine masks_spec (E := E) (L.map (·.1.pre)) [] (fun k c hc _ => by simp at hc) (fun i p hp hE k hk => ?_) j b hb hE
  rw [List.getElem?_map] at hp
  cases hy : L[i]? with
  | none => rw [hy] at hp; cases hp
  | some y =>
    rw [hy] at hp
    injection hp with hp; subst hp
    exact h i y hy (by simpa using hE) k hk

/-- The pair's order: an operation that has run has all those before it that it may not change places with. -/
theorem Shut.before {E : Nat → Prop} (h : Shut L E) (hok : okDraw L = true) {j k : Nat} {x y : MOper × Fp} (hk : L[k]? = some x) (hj : L[j]? = some y) (hkj : k < j) (hc : clashes x y = true) (hE : E j) : E k :=
  h.mask (okDraw_pair hok hk hj hkj hc) hE

structure InvD (l : List Oper) (L : List (MOper × Fp)) (Fs : Nat → List (Nat × AV)) (Hs : Nat → List (Nat × Ob)) (E : Nat → Prop) (f : Nat → Option AV) (h : Nat → Option Ob) : Prop where
  shut : Shut L E
  slot : ∀ t m, m ≤ l.length → (∀ k y, L[k]? = some y → y.1.dst = some t → (E k ↔ k < m)) → f t = get (Fs m) t
  name : ∀ i m, m ≤ l.length → (∀ k y, L[k]? = some y → i ∈ y.2.2 → (E k ↔ k < m)) → h i = get (Hs m) i

theorem overlap_mem {a b : List Nat} {x : Nat} (h1 : x ∈ a) (h2 : x ∈ b) : overlap a b = true := List.any_eq_true.2 ⟨x, h1, by simpa using h2⟩

theorem clashes_dr {x y : MOper × Fp} {t : Nat} (h1 : x.1.dst = some t) (h2 : t ∈ y.1.slots ∨ y.1.dst = some t) : clashes x y = true := by
  unfold clashes
  rw [h1]
  rcases h2 with h2 | h2 <;> simp [h2]
theorem clashes_rd {x y : MOper × Fp} {t : Nat} (h1 : t ∈ x.1.slots) (h2 : y.1.dst = some t) : clashes x y = true := by
  unfold clashes
  rw [h2]
  simp [h1]
theorem clashes_w {x y : MOper × Fp} {i : Nat} (h1 : i ∈ x.2.2) (h2 : i ∈ y.2.1 ∨ i ∈ y.2.2) : clashes x y = true := by
  unfold clashes
  have := overlap_mem (b := y.2.1 ++ y.2.2) h1 (List.mem_append.2 h2)
  simp [this]
theorem clashes_r {x y : MOper × Fp} {i : Nat} (h1 : i ∈ x.2.1) (h2 : i ∈ y.2.2) : clashes x y = true := by
  unfold clashes
  have := overlap_mem h1 h2
  simp [this]

/-- Before an operation that may run next, its slots and names are as the text has them. -/
theorem InvD.ready {E : Nat → Prop} {f : Nat → Option AV} {h : Nat → Option Ob} (inv : InvD l L Fs Hs E f h) (hok : okDraw L = true) {j : Nat} {y : MOper × Fp} (hj : L[j]? = some y) (hjl : j < l.length) (hE : ¬ E j)
    (hpre : ∀ k, k ∈ y.1.pre → E k) : (∀ t, t ∈ y.1.slots → f t = get (Fs j) t) ∧ ∀ i, i ∈ y.2.1 ∨ i ∈ y.2.2 → h i = get (Hs j) i := by
  -- E with j is shut, too
  have hshut : Shut L (fun k => E k ∨ k = j) := fun k x hx hk q hq => by
    rcases hk with hk | rfl
    · exact .inl (inv.shut k x hx hk q hq)
    · rw [hj] at hx; injection hx with hx; subst hx; exact .inl (hpre q hq)
  have before : ∀ k x, L[k]? = some x → k < j → clashes x y = true → E k := fun k x hx hkj hc => (hshut.before hok hx hj hkj hc (.inr rfl)).resolve_right (by omega)
  have after : ∀ k x, L[k]? = some x → j < k → clashes y x = true → ¬ E k := fun k x hx hjk hc hk => hE (inv.shut.before hok hj hx hjk hc hk)
  refine ⟨fun t ht => inv.slot t j (by omega) fun k x hx hd => ?_, fun i hi => inv.name i j (by omega) fun k x hx hd => ?_⟩
  · rcases Nat.lt_trichotomy k j with h1 | h1 | h1
    · exact ⟨fun _ => h1, fun _ => before k x hx h1 (clashes_dr hd (.inl ht))⟩
    · subst h1; exact ⟨fun h => absurd h hE, fun h => absurd h (by omega)⟩
    · exact ⟨fun h => absurd h (after k x hx h1 (clashes_rd ht hd)), fun h => by omega⟩
  · rcases Nat.lt_trichotomy k j with h1 | h1 | h1
    · exact ⟨fun _ => h1, fun _ => before k x hx h1 (clashes_w hd hi)⟩
    · subst h1; exact ⟨fun h => absurd h hE, fun h => absurd h (by omega)⟩
    · refine ⟨fun h => absurd h (after k x hx h1 ?_), fun h => by omega⟩
      rcases hi with hi | hi
      · exact clashes_r hi hd
      · exact clashes_w hi (.inr hd)

/-- Behind it. -/
theorem InvD.step (hr : RunD P N ops l L Fs Hs vs) {E E' : Nat → Prop} {f : Nat → Option AV} {h : Nat → Option Ob} (inv : InvD l L Fs Hs E f h) (hok : okDraw L = true) {j : Nat} {y : MOper × Fp} (hj : L[j]? = some y) (hjl : j < l.length) (hE : ¬ E j)
    (hpre : ∀ k, k ∈ y.1.pre → E k) (hE' : ∀ k, E' k ↔ E k ∨ k = j) :
    InvD l L Fs Hs E' (fun t => if some t = y.1.dst then some (vs j) else f t) (fun i => if i ∈ y.2.2 then get (Hs (j + 1)) i else h i) := by
  have hshut : Shut L E' := fun k x hx hk q hq => by
    rw [hE'] at hk ⊢
    rcases hk with hk | rfl
    · exact .inl (inv.shut k x hx hk q hq)
    · rw [hj] at hx; injection hx with hx; subst hx; exact .inl (hpre q hq)
  have after : ∀ k x, L[k]? = some x → j < k → clashes y x = true → ¬ E k := fun k x hx hjk hc hk => hE (inv.shut.before hok hj hx hjk hc hk)
  have hjE' : E' j := (hE' j).2 (.inr rfl)
  obtain ⟨o, _, _, hs, hF⟩ := hr.step j y hj
  refine ⟨hshut, fun t m hm hw => ?_, fun i m hm hw => ?_⟩
  · by_cases ht : some t = y.1.dst
    · rw [if_pos ht]
      have hjm : j < m := (hw j y hj ht.symm).1 hjE'
      have := hr.slot_same (t := t) (a := j + 1) (m - (j + 1)) (by omega) fun k x h1 h2 hx hd => by
        have hEk : E' k := (hw k x hx hd).2 (by omega)
        rw [hE'] at hEk
        rcases hEk with hEk | hEk
        · exact after k x hx (by omega) (clashes_dr ht.symm (.inr hd)) hEk
        · omega
      rw [show j + 1 + (m - (j + 1)) = m by omega] at this
      rw [this, hF, get_putF, if_pos ht]
    · rw [if_neg ht]
      refine inv.slot t m hm fun k x hx hd => ?_
      rw [← hw k x hx hd, hE']
      refine ⟨.inl, fun h => h.resolve_right fun e => ?_⟩
      subst e
      rw [hj] at hx; injection hx with hx; subst hx; exact ht hd.symm
  · by_cases hi : i ∈ y.2.2
    · rw [if_pos hi]
      have hjm : j < m := (hw j y hj hi).1 hjE'
      have := hr.name_same (i := i) (a := j + 1) (m - (j + 1)) (by omega) fun k x h1 h2 hx hd => by
        have hEk : E' k := (hw k x hx hd).2 (by omega)
        rw [hE'] at hEk
        rcases hEk with hEk | hEk
        · exact after k x hx (by omega) (clashes_w hi (.inr hd)) hEk
        · omega
      rw [show j + 1 + (m - (j + 1)) = m by omega] at this
      exact this.symm
    · rw [if_neg hi]
      refine inv.name i m hm fun k x hx hd => ?_
      rw [← hw k x hx hd, hE']
      refine ⟨.inl, fun h => h.resolve_right fun e => ?_⟩
      subst e
      rw [hj] at hx; injection hx with hx; subst hx; exact hi hd

theorem unlisted_false {listed : Array Bool} {i : Nat} (h : listed.getD i true = false) : listed.getD i false = false := by
  by_cases hi : i < listed.size
  · simp [hi] at h ⊢; exact h
  · simp [hi]
theorem unlisted_true {listed : Array Bool} {i : Nat} (hi : i < listed.size) (h : listed.getD i false = false) : listed.getD i true = false := by
  simp [hi] at h ⊢; exact h

theorem getD_replicate_false' (m j : Nat) : (Array.replicate m false).getD j false = false := by
  by_cases h : j < m <;> simp [h]

/-- How many are still to come. -/
def left (n : Nat) (listed : Array Bool) : Nat := ((List.range n).filter fun k => !listed.getD k true).length

theorem left_set {n j : Nat} {listed : Array Bool} (hj : j < n) (h : listed.getD j true = false) : left n (listed.setIfInBounds j true) < left n listed := by
  unfold left
  have hjl : j < listed.size := by
    rcases Nat.lt_or_ge j listed.size with h' | h'
    · exact h'
    · simp [Array.getElem?_eq_none h'] at h
  have e : ∀ k, (!(listed.setIfInBounds j true).getD k true) = ((!listed.getD k true) && decide (k ≠ j)) := fun k => by
    by_cases hk : j = k
    · subst hk; simp [hjl]
    · rw [getD_set_ne true hk]; simp [Ne.symm hk]
  have e2 : (List.range n).filter (fun k => !(listed.setIfInBounds j true).getD k true) = ((List.range n).filter fun k => !listed.getD k true).filter (fun k => decide (k ≠ j)) := by
    rw [List.filter_filter]
    congr 1
    funext k
    rw [e k, Bool.and_comm]
  rw [e2]
  refine List.length_filter_lt_length_iff_exists.2 ⟨j, ?_, by simp⟩
  rw [List.mem_filter]
  exact ⟨List.mem_range.2 hj, by rw [h]; rfl⟩

theorem draw_sound (hr : RunD P N ops l L Fs Hs vs) (hok : okDraw L = true) (hl : l = ops.toList) {Q : Exit → Act → World → Prop} :
    ∀ (fuel : Nat) (listed : Array Bool) (a : Act) (w : World) (S : Nat → Prop) (ρ : Rho) (f : Nat → Option AV) (h : Nat → Option Ob), listed.size = l.length → left l.length listed ≤ fuel →
      InvD l L Fs Hs (fun k => listed.getD k false = true) f h → FRN N w S ρ f a → HRF w S ρ h →
      (∀ S' ρ' a' w', FRN N w' S' ρ' (get (Fs l.length)) a' → a'.defers = a.defers → HRF w' S' ρ' (get (Hs l.length)) → ExtH w S ρ h w' S' ρ' (get (Hs l.length)) → Q .normal a' w') →
      wpAny P .any ops Q fuel listed a w := by
  have hsz : ops.size = l.length := by rw [hl]; simp
  have hget : ∀ j o, l[j]? = some o → ops[j]? = some o := fun j o h => by rw [hl, Array.getElem?_toList] at h; exact h
  -- when none is ready, all have run
  have allrun : ∀ (listed : Array Bool), listed.size = l.length → Region.ready .any ops listed = [] → ∀ k, k < l.length → listed.getD k false = true := by
    intro listed hls hre k
    induction k using Nat.strongRecOn with
    | _ k ih =>
      intro hk
      obtain ⟨y, hy⟩ := hr.at_ hk
      obtain ⟨o, g1, g2, _⟩ := hr.step k y hy
      obtain ⟨_, _, _, hp, _⟩ := compOper_parts g2
      cases hb : listed.getD k false with
      | true => rfl
      | false =>
        have hmem : k ∈ Region.ready .any ops listed := mem_ready.2 ⟨unlisted_true (by omega) hb, o, hget k o g1, fun e he hbd => by
          have hin : e.on ∈ y.1.pre := by
            rw [hp]; unfold preOf
            exact List.mem_map.2 ⟨e, List.mem_filter.2 ⟨by simpa using he, hbd⟩, rfl⟩
          have hlt := okDraw_pre hok hy e.on hin
          exact ih e.on hlt (by omega)⟩
        rw [hre] at hmem; cases hmem
  have finish : ∀ (listed : Array Bool) (a : Act) (w : World) (S : Nat → Prop) (ρ : Rho) (f : Nat → Option AV) (h : Nat → Option Ob), listed.size = l.length →
      InvD l L Fs Hs (fun k => listed.getD k false = true) f h → FRN N w S ρ f a → HRF w S ρ h →
      (∀ S' ρ' a' w', FRN N w' S' ρ' (get (Fs l.length)) a' → a'.defers = a.defers → HRF w' S' ρ' (get (Hs l.length)) → ExtH w S ρ h w' S' ρ' (get (Hs l.length)) → Q .normal a' w') →
      Region.ready .any ops listed = [] → Q .normal a w := by
    intro listed a w S ρ f h hls inv hF hH hQ hre
    have hall := allrun listed hls hre
    have lt : ∀ k y, L[k]? = some y → k < l.length := fun k y hy => by rw [← hr.len]; exact (List.getElem?_eq_some_iff.1 hy).1
    have ef : f = get (Fs l.length) := funext fun t => inv.slot t l.length (Nat.le_refl _) fun k y hy _ => ⟨fun _ => lt k y hy, fun hk => hall k hk⟩
    have eh : h = get (Hs l.length) := funext fun i => inv.name i l.length (Nat.le_refl _) fun k y hy _ => ⟨fun _ => lt k y hy, fun hk => hall k hk⟩
    rw [ef] at hF
    rw [eh] at hH hQ
    exact hQ S ρ a w hF rfl hH (Ext.refl _ _ _ _ _ hH.hS)
  intro fuel
  induction fuel with
  | zero =>
    intro listed a w S ρ f h hls hlft inv hF hH hQ
    have hre : Region.ready .any ops listed = [] := by
      cases hR : Region.ready .any ops listed with
      | nil => rfl
      | cons j rest =>
        have hj : j ∈ Region.ready .any ops listed := by rw [hR]; simp
        obtain ⟨hun, o, ho, _⟩ := mem_ready.1 hj
        have hjl : j < l.length := by rw [← hsz]; exact (Array.getElem?_eq_some_iff.1 ho).1
        have := left_set hjl hun
        omega
    exact ⟨hre, finish listed a w S ρ f h hls inv hF hH hQ hre⟩
  | succ fuel ih =>
    intro listed a w S ρ f h hls hlft inv hF hH hQ
    refine ⟨finish listed a w S ρ f h hls inv hF hH hQ, fun j hj => ?_⟩
    obtain ⟨hun, o, ho, hall⟩ := mem_ready.1 hj
    have hjl : j < l.length := by rw [← hsz]; exact (Array.getElem?_eq_some_iff.1 ho).1
    obtain ⟨y, hy⟩ := hr.at_ hjl
    obtain ⟨o', g1, g2, g3, g4⟩ := hr.step j y hy
    have hoo : o' = o := by have := hget j o' g1; rw [ho] at this; injection this with this; exact this.symm
    subst hoo
    obtain ⟨_, _, _, hp, _⟩ := compOper_parts g2
    have hpre : ∀ k, k ∈ y.1.pre → listed.getD k false = true := fun k hk => by
      rw [hp] at hk
      unfold preOf at hk
      obtain ⟨e, he, rfl⟩ := List.mem_map.1 hk
      obtain ⟨he1, he2⟩ := List.mem_filter.1 he
      exact hall e (by simpa using he1) he2
    have hnE : ¬ listed.getD j false = true := by rw [unlisted_false hun]; simp
    obtain ⟨r1, r2⟩ := inv.ready hok hy hjl hnE hpre
    unfold wpOp
    rw [ho]
    refine step_conf g2 g3 hF hH (fun t ht => (r1 t ht).symm) (fun i hi => (r2 i hi).symm) fun S1 ρ1 a1 w1 hF1 hd1 hH1 hE1 => ?_
    refine ih _ a1 w1 S1 ρ1 _ _ (by simp [hls]) ?_ (inv.step hr hok hy hjl hnE hpre fun k => ?_) hF1 hH1 fun S2 ρ2 a2 w2 hF2 hd2 hH2 hE2 => hQ S2 ρ2 a2 w2 hF2 (hd2.trans hd1) hH2 (ExtH.trans hE1 hE2 fun i hi => ?_)
    · have := left_set hjl hun; omega
    · by_cases hk : j = k
      · subst hk
        have : j < listed.size := by omega
        simp [this]
      · rw [getD_set_ne false hk]
        exact ⟨.inl, fun h => h.resolve_right (Ne.symm hk)⟩
    · by_cases hw : i ∈ y.2.2
      · rw [if_pos hw] at hi
        have := g3.on i hw; rw [hi] at this; cases this
      · rwa [if_neg hw] at hi

end
end Go.Proofs.Ytadjdnhnbkcakaa
