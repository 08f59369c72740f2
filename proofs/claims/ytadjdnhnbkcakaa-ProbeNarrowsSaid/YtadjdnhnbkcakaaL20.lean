/-
  Loops over a family of states; other names for own objects.
-/
import Derived.Test.YtadjdnhnbkcakaaL19
namespace Go.Proofs.Ytadjdnhnbkcakaa
open Go.RowKit

section
variable {P : Program} {N : Nat} {Z : List Nat} {Q : Post} {F F0 : Fr} {H H0 : Hp}

/-- A loop whose states are a family. -/
theorem aw_fam {x : MC} {α : Type} (m : α → Nat) (F0 : α → Fr) (H0 : α → Hp) (ok : α → Prop) (a : α) (hok : ok a) (hw : Weak N Z F H (F0 a) (H0 a))
    (round : ∀ a, ok a → AW P N Z x (Then (fun F' H' => ∃ b, ok b ∧ m b < m a ∧ Weak N Z F' H' (F0 b) (H0 b)) Q) (F0 a) (H0 a)) : AW P N Z (.loop x) Q F H := by
  refine aw_weak hw (aw_loop (fun n F H => ∃ a, ok a ∧ n = m a ∧ F = F0 a ∧ H = H0 a) (m a) ⟨a, hok, rfl, rfl, rfl⟩ ?_)
  rintro n F H ⟨a, hok, rfl, rfl, rfl⟩
  refine aw_mono (round a hok) fun e F' H' q => ?_
  cases e with
  | normal =>
    obtain ⟨b, h1, h2, h3⟩ := q
    exact ⟨m b, F0 b, H0 b, h2, h3, b, h1, rfl, rfl, rfl⟩
  | _ => exact q

/-- A piece whose end is known: all that it leaves is in F0, H0. -/
theorem aw_cut {x y : MC} (F0 : Fr) (H0 : Hp) (h : AW P N Z x (Then (fun F' H' => Weak N Z F' H' F0 H0) Q) F H) (h2 : AW P N Z y Q F0 H0) : AW P N Z (.seq x y) Q F H :=
  aw_seq (aw_mono h fun e F' H' q => by
    cases e with
    | normal => exact aw_weak q h2
    | _ => exact q)

inductive KeptHs (H : Hp) (D : List Nat) : Hp → Prop where
  | nil : KeptHs H D []
  | keep {i : Nat} {ob : Ob} {H0 : Hp} (h : get H i = some ob) (hs : scopedOb D ob = true) (r : KeptHs H D H0) : KeptHs H D ((i, ob) :: H0)
  | virt {i e z : Nat} {fl : Bool} {H0 : Hp} (h : get H i = none) (r : KeptHs H D H0) : KeptHs H D ((i, .cells e z [] fl) :: H0)

theorem KeptHs.at_ {D : List Nat} (h : KeptHs H D H0) : ∀ i ob, get H0 i = some ob → (get H i = some ob ∧ scopedOb D ob = true) ∨ (get H i = none ∧ ∃ e z fl, ob = .cells e z [] fl) := by
  induction h with
  | nil => intro i ob h; simp [get] at h
  | keep h hs _ ih =>
    intro k o hk
    simp only [get] at hk
    split at hk
    · rename_i e; subst e; injection hk with hk; subst hk; exact .inl ⟨h, hs⟩
    · exact ih k o hk
  | virt h _ ih =>
    intro k o hk
    simp only [get] at hk
    split at hk
    · rename_i e; subst e; injection hk with hk; subst hk; exact .inr ⟨h, _, _, _, rfl⟩
    · exact ih k o hk

theorem KeptHs.keptH (h : KeptHs H (keysOf H0) H0) : KeptH H H0 true := fun i ob hi => by
  rcases h.at_ i ob hi with ⟨h1, h2⟩ | h
  · exact .inl ⟨h1, h2, .inl rfl⟩
  · exact .inr h

theorem weak_to (hF : KeptF H H0 F F0) (hH : KeptHs H (keysOf H0) H0) (hZ : ∀ i, i ∈ Z → i ∈ keysOf H0) : Weak N Z F H F0 H0 := weak_of hF hH.keptH hZ

/-- Another name for an own object. -/
inductive Ren (i i' : Nat) : AV → AV → Prop where
  | ptr (j o : Nat) : Ren i i' (.ptr i j o) (.ptr i' j o)
  | sl (j n : Nat) : Ren i i' (.sl i j n) (.sl i' j n)
  | sa (j o n : Nat) : Ren i i' (.sa i j o n) (.sa i' j o n)
  | mp : Ren i i' (.mp i) (.mp i')
  | same (v : AV) : Ren i i' v v

inductive RenF (i i' : Nat) (F : Fr) : Fr → Prop where
  | nil : RenF i i' F []
  | cons {t : Nat} {v v' : AV} {F0 : Fr} (h : get F t = some v) (hr : Ren i i' v v') (r : RenF i i' F F0) : RenF i i' F ((t, v') :: F0)

theorem RenF.at_ {i i' : Nat} (h : RenF i i' F F0) : ∀ t v', get F0 t = some v' → ∃ v, get F t = some v ∧ Ren i i' v v' := by
  induction h with
  | nil => intro t v h; simp [get] at h
  | cons h hr _ ih =>
    intro t' u hu
    simp only [get] at hu
    split at hu
    · rename_i e; subst e; injection hu with hu; subst hu; exact ⟨_, h, hr⟩
    · exact ih t' u hu

theorem weak_ren {i i' : Nat} {ob : Ob} (hi : get H i = some ob) (hi' : get H i' = none) (hF : RenF i i' F F0) : Weak N Z F H F0 ((i', ob) :: (i, .dead) :: H) := fun S ρ a w hc => by
  have hne : i ≠ i' := fun e => by rw [e, hi'] at hi; cases hi
  let ρ' : Rho := fun k => if k = i' then ρ i else ρ k
  have hρ : ∀ k x, ρ k = some x → ρ' k = some x := fun k x h => by
    have : k ≠ i' := fun e => by rw [e, hc.hp.dom i' hi'] at h; cases h
    simp [ρ', this, h]
  have hg : ∀ k, get ((i', ob) :: (i, Ob.dead) :: H) k = if i' = k then some ob else if i = k then some .dead else get H k := fun k => rfl
  -- a live row of the new heap, in the old one
  have live : ∀ k o b z c, get ((i', ob) :: (i, Ob.dead) :: H) k = some o → o.live = true → ρ' k = some (some b, z, c) → ∃ k0, (k = i' ∧ k0 = i ∨ k ≠ i' ∧ k ≠ i ∧ k0 = k) ∧ get H k0 = some o ∧ ρ k0 = some (some b, z, c) := fun k o b z c h1 h2 h3 => by
    rw [hg] at h1
    by_cases e : i' = k
    · subst e
      simp at h1; subst h1
      exact ⟨i, .inl ⟨rfl, rfl⟩, hi, by simpa [ρ'] using h3⟩
    · rw [if_neg e] at h1
      by_cases e2 : i = k
      · rw [if_pos e2] at h1; injection h1 with h1; subst h1; simp [Ob.live] at h2
      · rw [if_neg e2] at h1
        exact ⟨k, .inr ⟨fun h => e h.symm, fun h => e2 h.symm, rfl⟩, h1, by simpa [ρ', show ¬ k = i' from fun h => e h.symm] using h3⟩
  refine ⟨S, ρ', ⟨⟨hc.fr.size, fun t v hv => ?_⟩, hc.defers, ⟨hc.hp.hS, fun k hk => ?_, ⟨fun k o _ hk => ?_, fun k j ok oj b z z' c c' _ _ hkj hgk hgj hlk hlj hrk hrj => ?_⟩⟩, fun k hk => ?_⟩, ⟨Keep.refl _ _, fun b hb => hb, fun b hb => .inl hb, fun b hb => ?_, fun k hk => ?_⟩⟩
  · obtain ⟨u, h1, h2⟩ := hF.at_ t v hv
    have h3 := hc.fr.at_ t u h1
    generalize a.tmps.getD t undef = cv at h3 ⊢
    cases h2 with
    | ptr j o =>
      obtain ⟨b, z, cap, q1, q2⟩ := h3.ptr_inv
      rw [q2]
      exact .ptr i' j o b z cap (by simpa [ρ'] using q1)
    | sl j n =>
      rcases h3.sl_inv with ⟨b, z, cap, cap', q1, q2, q3, q4⟩ | ⟨z, q1, q2, q3, q4⟩
      · rw [q4]; exact .sl i' j n b z cap cap' (by simpa [ρ'] using q1) q2 q3
      · subst q2 q3; rw [q4]; exact .sl0 i' z (by simpa [ρ'] using q1)
    | sa j o n =>
      cases h3 with
      | cl h => cases h
      | sa _ _ _ _ b z cap cap' q1 q2 => exact .sa i' j o n b z cap cap' (by simpa [ρ'] using q1) q2
    | mp =>
      cases h3 with
      | cl h => cases h
      | mp _ b z cap q1 => exact .mp i' b z cap (by simpa [ρ'] using q1)
    | same => exact h3.mono (fun _ h => h) (fun _ _ _ h => h) hρ
  · rw [hg] at hk
    split at hk
    · cases hk
    · rename_i e
      split at hk
      · cases hk
      · simpa [ρ', show ¬ k = i' from fun h => e h.symm] using hc.hp.dom k hk
  · have mono : ∀ (o : Ob) (bk : Option Nat) (z cap : Nat), (∀ b, bk = some b → o.live = true → ¬ S b) → OR w S ρ o bk z cap → OR w S ρ' o bk z cap := fun o bk z cap hb h =>
      OR.mono (fun _ h => h) (fun _ _ _ h => h) hρ (fun b e hl => ⟨rfl, hb b e hl⟩) h
    rw [hg] at hk
    by_cases e : i' = k
    · subst e
      simp at hk; subst hk
      obtain ⟨bk, z, cap, q1, q2⟩ := hc.hp.at_.ob i ob trivial hi
      exact ⟨bk, z, cap, by simpa [ρ'] using q1, mono ob bk z cap (fun b e hl => (hc.hp.cells_ne hi hl (by rw [q1, e])).1) q2⟩
    · rw [if_neg e] at hk
      by_cases e2 : i = k
      · rw [if_pos e2] at hk; injection hk with hk; subst hk e2
        obtain ⟨bk, z, cap, q1, q2⟩ := hc.hp.at_.ob i ob trivial hi
        exact ⟨bk, z, cap, by simpa [ρ', hne] using q1, trivial⟩
      · rw [if_neg e2] at hk
        obtain ⟨bk, z, cap, q1, q2⟩ := hc.hp.at_.ob k o trivial hk
        exact ⟨bk, z, cap, by simpa [ρ', show ¬ k = i' from fun h => e h.symm] using q1, mono o bk z cap (fun b e hl => (hc.hp.cells_ne hk hl (by rw [q1, e])).1) q2⟩
  · obtain ⟨k0, a1, a2, a3⟩ := live k ok b z c hgk hlk hrk
    obtain ⟨j0, b1, b2, b3⟩ := live j oj b z' c' hgj hlj hrj
    refine hc.hp.at_.dis k0 j0 ok oj b z z' c c' trivial trivial ?_ a2 b2 hlk hlj a3 b3
    rcases a1 with ⟨rfl, rfl⟩ | ⟨a1, a4, rfl⟩ <;> rcases b1 with ⟨rfl, rfl⟩ | ⟨b1, b4, rfl⟩
    · exact absurd rfl hkj
    · exact fun e => b4 e.symm
    · exact a4
    · exact hkj
  · rw [hg]
    split
    · simp
    · split
      · simp
      · exact hc.z k hk
  · obtain ⟨k, o, z, cap, _, h1, h2, h3⟩ := hb
    obtain ⟨k0, _, a2, a3⟩ := live k o b z cap h1 h2 h3
    exact .inl ⟨k0, o, z, cap, trivial, a2, h2, a3⟩
  · have : k ≠ i' := fun e => hc.z k hk (by rw [e]; exact hi')
    simp [ρ', this]

/-- A weakening in which one own object gets another name. -/
theorem weak_to_ren {i i' : Nat} {ob : Ob} {F1 : Fr} {H1 : Hp} (hF : KeptF H H1 F F1) (hH : KeptHs H (keysOf H1) H1) (hZ : ∀ k, k ∈ Z → k ∈ keysOf H1)
    (hi : get H1 i = some ob) (hi' : get H1 i' = none) (hR : RenF i i' F1 F0) (hF2 : KeptF ((i', ob) :: (i, .dead) :: H1) H0 F0 F0) (hH2 : KeptHs ((i', ob) :: (i, .dead) :: H1) (keysOf H0) H0) (hZ2 : ∀ k, k ∈ Z → k ∈ keysOf H0) : Weak N Z F H F0 H0 :=
  (weak_to hF hH hZ).trans ((weak_ren hi hi' hR).trans (weak_to hF2 hH2 hZ2))

end
end Go.Proofs.Ytadjdnhnbkcakaa
