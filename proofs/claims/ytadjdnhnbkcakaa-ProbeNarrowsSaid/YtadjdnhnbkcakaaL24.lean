/-
  A contract with a weaker result: own objects frozen or given up.
-/
import Derived.Test.YtadjdnhnbkcakaaL23
namespace Go.Proofs.Ytadjdnhnbkcakaa
open Go.RowKit

theorem fc_weak {P : Program} {f : FuncId} {args : List AV} {H H' H0 : Hp} {r r0 : AV} {al : Bool} (h : FC P f args H r H' al) (hr : RC H' H0 al r r0) (hk : KeptH H' H0 al) (hz : ∀ i, get H i ≠ none → ∃ ob, get H0 i = some ob ∧ ob.live = true ∧ get H' i ≠ none) : FC P f args H r0 H0 al := by
  intro w S ρ cargs hH hargs
  refine Calls.mono (h w S ρ cargs hH hargs) fun e w' ⟨cv, S', ρ', e1, e2, e3, e4, e5, e6, e7, e8⟩ => ?_
  obtain ⟨k1, k2⟩ := hrf_weak hk e3
  have hrho : ∀ i, get H i ≠ none → rhoW H' H0 ρ' i = ρ i := fun i hi => by
    obtain ⟨ob, z1, _, z3⟩ := hz i hi
    rw [rhoW_kept (by rw [z1]; simp) z3]
    exact e7 i hi
  have own0 : ∀ b, LiveF ρ (get H) All b → ¬ Sw H' H0 al S' ρ' b := fun b ⟨i, ob, z, cap, _, hgi, hl, hr⟩ hs => by
    have hne : get H i ≠ none := by rw [hgi]; simp
    obtain ⟨ob', z1, z2, z3⟩ := hz i hne
    exact (k1.cells_ne z1 z2 (by rw [hrho i hne]; exact hr)).1 hs
  refine ⟨cv, _, _, e1, hr S' ρ' w' cv e3 e2, k1, e4, fun b hb => ?_, fun b hb => ?_, hrho, fun i hi => ?_⟩
  · have hn0 : ¬ LiveF ρ (get H) All b := fun h => own0 b h hb
    rcases hb with ⟨ha, hb⟩ | ⟨i, ob, z, cap, _, hg, hl, hr⟩
    · rcases e5 b hb with ⟨h1, h2⟩ | h1
      · exact .inl ⟨ha, h2⟩
      · exact .inr h1
    · rcases e6 b ⟨i, ob, z, cap, trivial, hg, hl, hr⟩ with h1 | h1
      · exact absurd h1 hn0
      · exact .inr h1
  · obtain ⟨i, ob, z, cap, _, hg, hl, hr⟩ := k2 b hb
    exact e6 b ⟨i, ob, z, cap, trivial, hg, hl, hr⟩
  · obtain ⟨ob, z1, _, _⟩ := hz i hi
    rw [z1]; simp

/-- All that is new is frozen. -/
theorem fc_frozen {P : Program} {f : FuncId} {args : List AV} {H' : Hp} {r r0 : AV} {al : Bool} (h : FC P f args [] r H' al) (hr : RC H' [] al r r0) : FC P f args [] r0 [] al :=
  fc_weak h hr keptH_nil fun i hi => absurd rfl hi

/-- A whole list, frozen. -/
theorem rc_frz {α : Type} {f : α → List AV} {xs : List α} {H H0 : Hp} {al : Bool} {i e z n : Nat} (h : get H i = some (.cells e z (xs.map f) true)) (h0 : get H0 i = none) (hn : xs.length = n) (hf : ∀ x, noROL (f x) = true) : RC H H0 al (.sl i 0 n) (.rs z (xs.map f)) := by
  have := rc_freeze (al := al) (j := 0) (n := n) h h0 (by simp; omega) (.inr fun el he v hv => noROE_mem (noROE_map hf xs) el he v hv)
  rwa [List.drop_zero, List.take_of_length_le (by simp; omega)] at this

end Go.Proofs.Ytadjdnhnbkcakaa
