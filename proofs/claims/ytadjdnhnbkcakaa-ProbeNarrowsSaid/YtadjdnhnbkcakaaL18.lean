/-
  Values on their way: into a call, out of a function, over a weakening. Entering a function.
-/
import Derived.Test.YtadjdnhnbkcakaaL17
namespace Go.Proofs.Ytadjdnhnbkcakaa
open Go.RowKit

mutual
/-- Holds no read-only part. -/
def noRO : AV → Bool
  | .rp _ => false
  | .rs _ _ => false
  | .fn _ caps => noROL caps
  | .agg cs => noROL cs
  | .tup cs => noROL cs
  | _ => true
def noROL : List AV → Bool
  | [] => true
  | v :: l => noRO v && noROL l
end

theorem noROL_mem : ∀ {l : List AV} {v : AV}, noROL l = true → v ∈ l → noRO v = true
  | u :: l, v, h, hv => by
    simp only [noROL, Bool.and_eq_true] at h
    rcases List.mem_cons.1 hv with rfl | hv
    · exact h.1
    · exact noROL_mem h.2 hv

theorem CR.noRO {w w' : World} {S S' : Nat → Prop} {v : AV} {c : Value} (h : CR w S v c) (hn : noRO v = true) : CR w' S' v c := by
  induction h with
  | any c => exact .any c
  | und => exact .und
  | bool b => exact .bool b
  | int k n => exact .int k n
  | str s => exact .str s
  | nilp => exact .nilp
  | rp => simp [Ytadjdnhnbkcakaa.noRO] at hn
  | nils => exact .nils
  | rs0 => simp [Ytadjdnhnbkcakaa.noRO] at hn
  | rs => simp [Ytadjdnhnbkcakaa.noRO] at hn
  | fn f caps C hl _ ih =>
    simp only [Ytadjdnhnbkcakaa.noRO] at hn
    exact .fn f caps C hl fun j v hj => ih j v hj (noROL_mem hn (List.mem_of_getElem? hj))
  | nilf => exact .nilf
  | agg cs C hl h1 _ ih =>
    simp only [Ytadjdnhnbkcakaa.noRO] at hn
    exact .agg cs C hl h1 fun j v hj => ih j v hj (noROL_mem hn (List.mem_of_getElem? hj))
  | tup cs C hl _ ih =>
    simp only [Ytadjdnhnbkcakaa.noRO] at hn
    exact .tup cs C hl fun j v hj => ih j v hj (noROL_mem hn (List.mem_of_getElem? hj))
  | nilm => exact .nilm
  | anyb b => exact .anyb b

theorem VR.noRO {w w' : World} {S S' : Nat → Prop} {ρ : Rho} {v : AV} {c : Value} (h : VR w S ρ v c) (hn : noRO v = true) : VR w' S' ρ v c := by
  induction h with
  | cl h => exact .cl (h.noRO hn)
  | ptr i j o b z cap h => exact .ptr i j o b z cap h
  | sl i j n b z cap cap' h hc hl => exact .sl i j n b z cap cap' h hc hl
  | sl0 i z h => exact .sl0 i z h
  | sa i j o n b z cap cap' h hl => exact .sa i j o n b z cap cap' h hl
  | fn f caps C hl _ ih =>
    simp only [Ytadjdnhnbkcakaa.noRO] at hn
    exact .fn f caps C hl fun j v hj => ih j v hj (noROL_mem hn (List.mem_of_getElem? hj))
  | agg cs C hl h1 _ ih =>
    simp only [Ytadjdnhnbkcakaa.noRO] at hn
    exact .agg cs C hl h1 fun j v hj => ih j v hj (noROL_mem hn (List.mem_of_getElem? hj))
  | tup cs C hl _ ih =>
    simp only [Ytadjdnhnbkcakaa.noRO] at hn
    exact .tup cs C hl fun j v hj => ih j v hj (noROL_mem hn (List.mem_of_getElem? hj))
  | mp i b z cap h => exact .mp i b z cap h

def zOf : Ob → Nat
  | .dead => 0
  | .cells _ z _ _ => z
  | .mset _ => 0

/-- The names behind a weakening from H to H0: what is kept stands for what it stood for; a new name is an empty row. -/
def rhoW (H H0 : Hp) (ρ : Rho) : Rho := fun i => match get H0 i with
  | none => none
  | some ob => match get H i with
    | some _ => ρ i
    | none => some (none, zOf ob, 0)

/-- The blocks that stay, behind it: those that were given up with it. -/
def Sw (H H0 : Hp) (al : Bool) (S : Nat → Prop) (ρ : Rho) : Nat → Prop := fun b => (al = true ∧ S b) ∨ LiveF ρ (get H) (fun i => get H0 i = none) b

/-- A value over a weakening. -/
def RC (H H0 : Hp) (al : Bool) (v r : AV) : Prop := ∀ (S : Nat → Prop) (ρ : Rho) (w : World) (c : Value), HRF w S ρ (get H) → VR w S ρ v c → VR w (Sw H H0 al S ρ) (rhoW H H0 ρ) r c

theorem rhoW_kept {H H0 : Hp} {ρ : Rho} {i : Nat} (h0 : get H0 i ≠ none) (h : get H i ≠ none) : rhoW H H0 ρ i = ρ i := by
  unfold rhoW
  cases h1 : get H0 i with
  | none => exact absurd h1 h0
  | some ob => cases h2 : get H i with
    | none => exact absurd h2 h
    | some _ => rfl

/-- An own object's name, where a value speaks of it: it is in the heap. -/
theorem HRF.named {w : World} {S : Nat → Prop} {ρ : Rho} {H : Hp} (hh : HRF w S ρ (get H)) {i : Nat} {x : Option Nat × Nat × Nat} (h : ρ i = some x) : get H i ≠ none := fun h0 => by rw [hh.dom i h0] at h; cases h

theorem VR.rhoW {w : World} {S : Nat → Prop} {ρ : Rho} {v : AV} {c : Value} (h : VR w S ρ v c) {H H0 : Hp} (hh : HRF w S ρ (get H)) (hs : scopedV (keysOf H0) v = true) : VR w S (rhoW H H0 ρ) v c := by
  have key : ∀ i x, (keysOf H0).contains i = true → ρ i = some x → Ytadjdnhnbkcakaa.rhoW H H0 ρ i = some x := fun i x hi hx => by
    rw [rhoW_kept (mem_keys.1 (by simpa using hi)) (hh.named hx)]; exact hx
  induction h with
  | cl h => exact .cl h
  | ptr i j o b z cap h => exact .ptr i j o b z cap (key i _ hs h)
  | sl i j n b z cap cap' h hc hn => exact .sl i j n b z cap cap' (key i _ hs h) hc hn
  | sl0 i z h => exact .sl0 i z (key i _ hs h)
  | sa i j o n b z cap cap' h hn => exact .sa i j o n b z cap cap' (key i _ hs h) hn
  | fn f caps C hn _ ih =>
    simp only [scopedV] at hs
    exact .fn f caps C hn fun j v hj => ih j v hj (scopedL_mem hs (List.mem_of_getElem? hj))
  | agg cs C hn h1 _ ih =>
    simp only [scopedV] at hs
    exact .agg cs C hn h1 fun j v hj => ih j v hj (scopedL_mem hs (List.mem_of_getElem? hj))
  | tup cs C hn _ ih =>
    simp only [scopedV] at hs
    exact .tup cs C hn fun j v hj => ih j v hj (scopedL_mem hs (List.mem_of_getElem? hj))
  | mp i b z cap h => exact .mp i b z cap (key i _ hs h)

theorem rc_any {H H0 : Hp} {al : Bool} {v : AV} : RC H H0 al v .any := fun S ρ w c _ _ => .cl (.any c)

theorem rc_same {H H0 : Hp} {al : Bool} {v : AV} (hs : scopedV (keysOf H0) v = true) (hn : al = true ∨ noRO v = true) : RC H H0 al v v := fun S ρ w c hh h => by
  have h1 := h.rhoW hh hs
  rcases hn with rfl | hn
  · exact h1.mono (fun b hb => .inl ⟨rfl, hb⟩) (fun _ _ _ h => h) (fun _ _ h => h)
  · exact h1.noRO hn

theorem rc_nils {H H0 : Hp} {al : Bool} {z : Nat} : RC H H0 al .nils (.rs z []) := fun S ρ w c _ h => by
  rw [h.nils_inv]; exact .cl (.rs0 z none 0)

theorem rc_virt {H H0 : Hp} {al : Bool} {i e z : Nat} {fl : Bool} (h : get H i = none) (h0 : get H0 i = some (.cells e z [] fl)) : RC H H0 al .nils (.sl i 0 0) := fun S ρ w c _ hv => by
  rw [hv.nils_inv]
  exact .sl0 i z (by simp [rhoW, h, h0, zOf])

theorem rc_freeze {H H0 : Hp} {al : Bool} {i e z j n : Nat} {els : List (List AV)} (h : get H i = some (.cells e z els true)) (h0 : get H0 i = none) (hb : j + n ≤ els.length)
    (hn : al = true ∨ ∀ el ∈ els, ∀ v ∈ el, noRO v = true) : RC H H0 al (.sl i j n) (.rs z ((els.drop j).take n)) := fun S ρ w c hh hv => by
  have hlen : ((els.drop j).take n).length = n := by simp; omega
  rcases hv.sl_inv with ⟨b, z0, cap, cap', hρ, hjc, hnc, rfl⟩ | ⟨z0, hρ, rfl, rfl, rfl⟩
  · obtain ⟨bk, z1, c1, q1, hz, q2⟩ := hh.at_.ob i _ trivial h
    rw [hρ] at q1
    injection q1 with q1
    obtain ⟨rfl, rfl, rfl⟩ : some b = bk ∧ z0 = z1 ∧ cap = c1 := by simpa using q1
    subst hz
    obtain ⟨hs, hm, C, hC, e1, e2, e3, e4⟩ := q2
    have hSb : Sw H H0 al S ρ b := .inr ⟨i, _, z, cap, h0, h, rfl, hρ⟩
    have hcell : ∀ (q : Nat) (el : List AV) (k : Nat) (u : AV), ((els.drop j).take n)[q]? = some el → el[k]? = some u → els[j + q]? = some el ∧ q < n := fun q el k u hq _ => by
      rw [List.getElem?_take] at hq
      split at hq
      · rw [List.getElem?_drop] at hq; exact ⟨hq, by assumption⟩
      · cases hq
    have hq := CR.rs (w := w) (S := Sw H H0 al S ρ) z ((els.drop j).take n) b (j * z) cap' (fun q k => C.getD ((j + q) * z + k) undef) hSb (by omega)
      (fun q el k u hq hk => by
        obtain ⟨h1, h2⟩ := hcell q el k u hq hk
        obtain ⟨g1, g2⟩ := e4 (j + q) el k u h1 hk
        have hkz : k < z := Nat.lt_of_lt_of_le (List.getElem?_eq_some_iff.1 hk).1 (e3 _ el h1)
        have hlt : (j + q) * z + k < C.size := by
          rw [e1]
          calc (j + q) * z + k < (j + q) * z + z := by omega
            _ = (j + q + 1) * z := by rw [Nat.add_mul (j + q), Nat.one_mul]
            _ ≤ cap * z := Nat.mul_le_mul_right _ (by omega)
        refine ⟨?_, g1⟩
        rw [← Nat.add_mul, cell_of_row w b _ C e (0, 0) hC]
        exact getD_some hlt)
      (fun q el k u hq hk => by
        obtain ⟨h1, h2⟩ := hcell q el k u hq hk
        obtain ⟨_, g2⟩ := e4 (j + q) el k u h1 hk
        rw [if_pos rfl] at g2
        rcases hn with rfl | hn
        · exact g2.mono (fun b hb => .inl ⟨rfl, hb⟩) (fun _ _ _ h => h)
        · exact g2.noRO (hn el (List.mem_of_getElem? h1) u (List.mem_of_getElem? hk)))
    rw [hlen] at hq
    exact .cl hq
  · simp; exact .cl (.rs0 z none 0)

inductive RCs (H H0 : Hp) (al : Bool) : List AV → List AV → Prop where
  | nil : RCs H H0 al [] []
  | cons {v r : AV} {vs rs : List AV} (h : RC H H0 al v r) (hs : RCs H H0 al vs rs) : RCs H H0 al (v :: vs) (r :: rs)

theorem RCs.at_ {H H0 : Hp} {al : Bool} {vs rs : List AV} (h : RCs H H0 al vs rs) : vs.length = rs.length ∧ ∀ (j : Nat) (r : AV), rs[j]? = some r → ∃ v, vs[j]? = some v ∧ RC H H0 al v r := by
  induction h with
  | nil => exact ⟨rfl, fun j r h => by simp at h⟩
  | cons h _ ih =>
    refine ⟨by simp [ih.1], fun j r hj => ?_⟩
    cases j with
    | zero => simp at hj; subst hj; exact ⟨_, rfl, h⟩
    | succ j => simpa using ih.2 j r (by simpa using hj)

theorem rc_tup {H H0 : Hp} {al : Bool} {vs rs : List AV} (h : RCs H H0 al vs rs) : RC H H0 al (.tup vs) (.tup rs) := fun S ρ w c hh hv => by
  obtain ⟨C, rfl, hn, h2⟩ := hv.tup_inv
  obtain ⟨e1, e2⟩ := h.at_
  refine .tup rs C (by rw [hn, e1]) fun j r hj => ?_
  obtain ⟨v, g1, g2⟩ := e2 j r hj
  exact g2 S ρ w _ hh (h2 j v g1)

theorem rc_agg {H H0 : Hp} {al : Bool} {vs rs : List AV} (h : RCs H H0 al vs rs) : RC H H0 al (.agg vs) (.agg rs) := fun S ρ w c hh hv => by
  obtain ⟨C, rfl, hn, h1, h2⟩ := hv.agg_inv
  obtain ⟨e1, e2⟩ := h.at_
  refine .agg rs C (by rw [hn, e1]) (fun j r hj => ?_) fun j r hj => ?_
  · obtain ⟨v, g1, _⟩ := e2 j r hj
    exact h1 j v g1
  · obtain ⟨v, g1, g2⟩ := e2 j r hj
    exact g2 S ρ w _ hh (h2 j v g1)

/-- The objects that are kept, and the new empty rows. -/
def KeptH (H H0 : Hp) (al : Bool) : Prop := ∀ i ob, get H0 i = some ob →
  (get H i = some ob ∧ scopedOb (keysOf H0) ob = true ∧ (al = true ∨ ∀ e z els fl, ob = .cells e z els fl → ∀ el ∈ els, ∀ v ∈ el, noRO v = true)) ∨
  (get H i = none ∧ ∃ e z fl, ob = .cells e z [] fl)

theorem keptH_nil {H : Hp} {al : Bool} : KeptH H [] al := fun i ob h => by simp [get] at h

theorem hrf_weak {H H0 : Hp} {al : Bool} (hk : KeptH H H0 al) {w : World} {S : Nat → Prop} {ρ : Rho} (hh : HRF w S ρ (get H)) : HRF w (Sw H H0 al S ρ) (rhoW H H0 ρ) (get H0) ∧
    (∀ b, LiveF (rhoW H H0 ρ) (get H0) All b → LiveF ρ (get H) (fun i => get H0 i ≠ none) b) := by
  have live : ∀ i ob b z cap, get H0 i = some ob → ob.live = true → rhoW H H0 ρ i = some (some b, z, cap) → get H i = some ob ∧ ρ i = some (some b, z, cap) := fun i ob b z cap hi hl hr => by
    rcases hk i ob hi with ⟨h1, _, _⟩ | ⟨h1, e, z', fl, rfl⟩
    · refine ⟨h1, ?_⟩
      rw [rhoW_kept (by rw [hi]; simp) (by rw [h1]; simp)] at hr; exact hr
    · simp [rhoW, hi, h1] at hr
  refine ⟨⟨fun b hb => ?_, fun i hi => by simp [rhoW, hi], ⟨fun i ob _ hi => ?_, fun i j oi oj b z z' c c' _ _ hne hi hj hli hlj hri hrj => ?_⟩⟩, fun b ⟨i, ob, z, cap, _, hi, hl, hr⟩ => ?_⟩
  · rcases hb with ⟨_, hb⟩ | ⟨i, ob, z, cap, _, hg, hl, hr⟩
    · exact hh.hS b hb
    · exact (hh.cells_ne hg hl hr).2
  · rcases hk i ob hi with ⟨h1, h2, h3⟩ | ⟨h1, e, z', fl, rfl⟩
    · obtain ⟨bk, z, cap, q1, q2⟩ := hh.at_.ob i ob trivial h1
      refine ⟨bk, z, cap, by rw [rhoW_kept (by rw [hi]; simp) (by rw [h1]; simp)]; exact q1, ?_⟩
      cases ob with
      | dead => trivial
      | mset ks =>
        obtain ⟨b, es, clk, e1, g0, g1, g2⟩ := q2
        subst e1
        refine ⟨b, es, clk, rfl, fun hs => ?_, g1, g2⟩
        rcases hs with ⟨_, hs⟩ | ⟨k, ob', z2, c2, hk0, hgk, hlk, hrk⟩
        · exact g0 hs
        · exact hh.at_.dis i k _ ob' b z z2 cap c2 trivial trivial (fun e => by rw [e, hk0] at hi; cases hi) h1 hgk rfl hlk q1 hrk
      | cells e z' els fl =>
        obtain ⟨hz, q2⟩ := q2
        refine ⟨hz, ?_⟩
        cases bk with
        | none => exact q2
        | some b =>
          obtain ⟨g0, hm, C, hC, g1, g2, g3, g4⟩ := q2
          refine ⟨fun hs => ?_, hm, C, hC, g1, g2, g3, fun j el o v hj ho => ?_⟩
          · rcases hs with ⟨_, hs⟩ | ⟨k, ob', z2, c2, hk0, hgk, hlk, hrk⟩
            · exact g0 hs
            · exact hh.at_.dis i k _ ob' b z z2 cap c2 trivial trivial (fun e => by rw [e, hk0] at hi; cases hi) h1 hgk rfl hlk q1 hrk
          · obtain ⟨f1, f2⟩ := g4 j el o v hj ho
            refine ⟨f1, ?_⟩
            have hno : al = true ∨ noRO v = true := h3.imp id fun h => h e z' els fl rfl el (List.mem_of_getElem? hj) v (List.mem_of_getElem? ho)
            by_cases hf : fl = true
            · rw [if_pos hf] at f2 ⊢
              rcases hno with rfl | hno
              · exact f2.mono (fun b hb => .inl ⟨rfl, hb⟩) (fun _ _ _ h => h)
              · exact f2.noRO hno
            · have hf' : fl = false := by simpa using hf
              subst hf'
              rw [if_neg (by simp)] at f2 ⊢
              exact rc_same (scopedL_mem (scopedE_mem h2 (List.mem_of_getElem? hj)) (List.mem_of_getElem? ho)) hno S ρ w _ hh f2
    · exact ⟨none, z', 0, by simp [rhoW, hi, h1, zOf], rfl, rfl, rfl⟩
  · obtain ⟨g1, g2⟩ := live i oi b z c hi hli hri
    obtain ⟨g3, g4⟩ := live j oj b z' c' hj hlj hrj
    exact hh.at_.dis i j oi oj b z z' c c' trivial trivial hne g1 g3 hli hlj g2 g4
  · obtain ⟨g1, g2⟩ := live i ob b z cap hi hl hr
    exact ⟨i, ob, z, cap, (by show get H0 i ≠ none; rw [hi]; simp), g1, hl, g2⟩

/-- The slots that are kept. -/
inductive KeptF (H H0 : Hp) (F : Fr) : Fr → Prop where
  | nil : KeptF H H0 F []
  | cons {t : Nat} {v v0 : AV} {F0 : Fr} (h : get F t = some v) (hv : RC H H0 true v v0) (hs : KeptF H H0 F F0) : KeptF H H0 F ((t, v0) :: F0)

theorem KeptF.at_ {H H0 : Hp} {F F0 : Fr} (h : KeptF H H0 F F0) : ∀ t v0, get F0 t = some v0 → ∃ v, get F t = some v ∧ RC H H0 true v v0 := by
  induction h with
  | nil => intro t v0 h; simp [get] at h
  | cons h hv _ ih =>
    rename_i t v v0 F0 _
    intro t' u hu
    simp only [get] at hu
    split at hu
    · rename_i e; subst e; injection hu with hu; subst hu; exact ⟨v, h, hv⟩
    · exact ih t' u hu

theorem weak_of {N : Nat} {Z : List Nat} {F F0 : Fr} {H H0 : Hp} (hF : KeptF H H0 F F0) (hH : KeptH H H0 true) (hZ : ∀ i, i ∈ Z → i ∈ keysOf H0) : Weak N Z F H F0 H0 := fun S ρ a w hc => by
  obtain ⟨g1, g2⟩ := hrf_weak hH hc.hp
  refine ⟨Sw H H0 true S ρ, rhoW H H0 ρ, ⟨⟨hc.fr.size, fun t v hv => ?_⟩, hc.defers, g1, fun i hi => mem_keys.1 (hZ i hi)⟩, ⟨Keep.refl _ _, fun b hb => .inl ⟨rfl, hb⟩, fun b hb => ?_, fun b hb => ?_, fun i hi => ?_⟩⟩
  · obtain ⟨u, h1, h2⟩ := hF.at_ t v hv
    exact h2 S ρ w _ hc.hp (hc.fr.at_ t u h1)
  · rcases hb with ⟨_, hb⟩ | ⟨i, ob, z, cap, _, hg, hl, hr⟩
    · exact .inl hb
    · exact .inr (.inl ⟨i, ob, z, cap, trivial, hg, hl, hr⟩)
  · obtain ⟨i, ob, z, cap, _, hg, hl, hr⟩ := g2 b hb
    exact .inl ⟨i, ob, z, cap, trivial, hg, hl, hr⟩
  · exact rhoW_kept (mem_keys.1 (hZ i hi)) (hc.z i hi)

/-- Results. -/
def resV (P : Program) (F : Fr) (H : Hp) : ResultVar → Option AV
  | .tmp t => get F t
  | .cell a ty => match get F a with
    | some (.ptr i j o) => match get H i with
      | some (.cells _ _ els _) => match els[j]? with
        | some el => match aggP P ty, sizeP P ty with
          | some true, some n => if o + n ≤ el.length then some (.agg ((el.drop o).take n)) else none
          | some false, some _ => el[o]?
          | _, _ => none
        | none => none
      | _ => none
    | _ => none

def resVs (P : Program) (F : Fr) (H : Hp) : List ResultVar → Option (List AV)
  | [] => some []
  | x :: l => match resV P F H x, resVs P F H l with
    | some v, some vs => some (v :: vs)
    | _, _ => none

def resOne : List AV → AV
  | [v] => v
  | vs => .tup vs

def RetQ (P : Program) (Z : List Nat) (rs : List ResultVar) (r : AV) (H' : Hp) (al : Bool) : Post := fun e F H => (e = .normal ∨ e = .ret) ∧ ∃ vs, resVs P F H rs = some vs ∧ RC H H' al (resOne vs) r ∧ KeptH H H' al ∧
  ∀ i, i ∈ Z → ∃ ob, get H' i = some ob ∧ ob.live = true ∧ get H i ≠ none

/-- The frame that a call begins with. -/
def params : List AV → Nat → Fr
  | [], _ => []
  | v :: l, k => (k, v) :: params l (k + 1)

theorem get_params : ∀ (l : List AV) (k t : Nat) (v : AV), get (params l k) t = some v → k ≤ t ∧ l[t - k]? = some v
  | [], k, t, v, h => by simp [params, get] at h
  | u :: l, k, t, v, h => by
    simp only [params, get] at h
    split at h
    · rename_i e; subst e; injection h with h; subst h; simp
    · rename_i hne
      obtain ⟨h1, h2⟩ := get_params l (k + 1) t v h
      refine ⟨by omega, ?_⟩
      rw [show t - k = (t - (k + 1)) + 1 by omega]
      simpa using h2

section
variable {P : Program}

/-- One result, read. -/
def rvRun (a : Act) : ResultVar → Sem Value
  | .tmp t => Pure.pure (a.tmps.getD t undef)
  | .cell b t => do loadVar t (← asAddr (a.tmps.getD b undef))

theorem run_resV {F : Fr} {H : Hp} {w : World} {S : Nat → Prop} {ρ : Rho} {a : Act} {N : Nat} (hF : FRN N w S ρ (get F) a) (hH : HRF w S ρ (get H)) : ∀ (x : ResultVar) (v : AV), resV P F H x = some v →
    ∃ cv, (rvRun a x).run P w = .ok cv w ∧ VR w S ρ v cv
  | .tmp t, v, h => ⟨_, rfl, hF.at_ t v h⟩
  | .cell b ty, v, h => by
    simp only [resV] at h
    split at h
    · rename_i i j o hb
      split at h
      · rename_i e z' els fl hi
        split at h
        · rename_i el hj
          obtain ⟨bb, z, cap, hρ, e1⟩ := (hF.at_ b _ hb).ptr_inv
          obtain ⟨_, _, _, C, _, _, _, _, hc⟩ := own_cells hH.at_ trivial hi hρ
          split at h
          · rename_i n hg hz
            split at h
            · rename_i hle
              injection h with h; subst h
              have hcell : ∀ k, k < n → w.cell? ((⟨bb, j * z + o, none⟩ : Addr).add k) = some (C.getD (j * z + (o + k)) undef) := fun k hk => by
                have hk' : el[o + k]? = some (el[o + k]'(by omega)) := List.getElem?_eq_getElem (by omega)
                rw [add_lit, Nat.add_assoc]
                exact (hc j el (o + k) _ hj hk').1
              refine ⟨.agg ((List.range n).map fun k => C.getD (j * z + (o + k)) undef).toArray, ?_, .agg _ _ (by simp; omega) (fun k v hk => ?_) (fun k v hk => ?_)⟩
              · simp [rvRun, e1, asAddr, run_loadVar_agg hg hz w _ _ hcell]
              all_goals
                have hkn : k < n := by
                  have := (List.getElem?_eq_some_iff.1 hk).1
                  simp at this; omega
                rw [List.getElem?_take, if_pos hkn, List.getElem?_drop] at hk
                rw [getD_map_range hkn]
              · exact (hc j el (o + k) v hj hk).2.1
              · exact (hc j el (o + k) v hj hk).2.2
            · cases h
          · rename_i n hg hz
            obtain ⟨q1, _, q3⟩ := hc j el o v hj h
            exact ⟨_, by simp [rvRun, e1, asAddr, run_loadVar_one hg w _ _ q1], q3⟩
          · cases h
        · cases h
      · cases h
    · cases h

theorem run_resVs {F : Fr} {H : Hp} {w : World} {S : Nat → Prop} {ρ : Rho} {a : Act} {N : Nat} (hF : FRN N w S ρ (get F) a) (hH : HRF w S ρ (get H)) : ∀ (l : List ResultVar) (vs : List AV), resVs P F H l = some vs →
    ∃ cs : List Value, (l.mapM (rvRun a)).run P w = .ok cs w ∧ cs.length = vs.length ∧
      ∀ (j : Nat) (v : AV), vs[j]? = some v → ∃ c, cs[j]? = some c ∧ VR w S ρ v c
  | [], vs, h => by simp [resVs] at h; subst h; exact ⟨[], by simp, rfl, fun j v h => by simp at h⟩
  | x :: l, vs, h => by
    simp only [resVs] at h
    split at h
    · rename_i v vs' h1 h2
      injection h with h; subst h
      obtain ⟨cv, g1, g2⟩ := run_resV (P := P) hF hH x v h1
      obtain ⟨cs, g3, g4, g5⟩ := run_resVs hF hH l vs' h2
      refine ⟨cv :: cs, ?_, by simp [g4], fun j u hj => ?_⟩
      · rw [List.mapM_cons]
        simp only [Sem.run_bind, g1, Result.andThen_ok, g3, Sem.run_pure]
      · cases j with
        | zero => simp at hj; subst hj; exact ⟨cv, rfl, g2⟩
        | succ j => simpa using g5 j u (by simpa using hj)
    · cases h

theorem fc_of_aw {f : FuncId} {fn : Func} {code : Code} {mc : MC} {args : List AV} {H H' : Hp} {r : AV} {al : Bool} (hf : P.funcs[f]? = some fn) (hb : fn.body = some code) (hc : compC P fn.ntmps code = some mc) (hn : args.length ≤ fn.ntmps)
    (h : AW P fn.ntmps (keysOf H) mc (RetQ P (keysOf H) fn.results.toList r H' al) (params args 0) H) : FC P f args H r H' al := by
  intro w S ρ cargs hH hargs
  refine calls_of_wp hf hb ?_
  have hsz : (cargs ++ Array.replicate (fn.ntmps - cargs.size) undef).size = fn.ntmps := by simp [hargs.1]; omega
  have hcf : Conf fn.ntmps (keysOf H) (params args 0) H S ρ { tmps := cargs ++ Array.replicate (fn.ntmps - cargs.size) undef, defers := [] } w := by
    refine ⟨⟨hsz, fun t v hv => ?_⟩, rfl, hH, fun i hi => mem_keys.1 hi⟩
    obtain ⟨_, h2⟩ := get_params args 0 t v hv
    rw [Nat.sub_zero] at h2
    have hl : t < cargs.size := by rw [hargs.1]; exact (List.getElem?_eq_some_iff.1 h2).1
    have := hargs.2 t v h2
    rw [Array.getD_eq_getD_getElem?] at this ⊢
    rw [Array.getElem?_append_left hl]; exact this
  refine wp_mono (h code hc S ρ _ w hcf) fun e a' w' ⟨F', H'', S', ρ', ⟨he, vs, hvs, hrc, hk, hz⟩, cf, ex⟩ => ?_
  obtain ⟨cs, g1, g2, g3⟩ := run_resVs (P := P) cf.fr cf.hp _ vs hvs
  obtain ⟨k1, k2⟩ := hrf_weak hk cf.hp
  have hres : ∃ cv, (results fn a'.tmps).run P w' = .ok cv w' ∧ VR w' S' ρ' (resOne vs) cv := by
    have hm : (fn.results.mapM (rvRun a')).run P w' = .ok cs.toArray w' := by
      rw [Array.mapM_eq_mapM_toList]
      simp only [Sem.run_map, g1, Result.andThen_ok]
    refine ⟨if h : cs.toArray.size = 1 then cs.toArray[0] else .tuple cs.toArray, ?_, ?_⟩
    · have e0 : results fn a'.tmps = (do let vs ← fn.results.mapM (rvRun a'); Pure.pure (if h : vs.size = 1 then vs[0] else .tuple vs)) := by
        unfold results
        congr 2
      rw [e0, Sem.run_bind, hm]
      rfl
    · match vs, cs, g2, g3 with
      | [], [], _, _ => exact .tup [] #[] rfl fun j v h => by simp at h
      | [v], [c], _, g3 =>
        obtain ⟨c', h1, h2⟩ := g3 0 v rfl
        simp at h1; subst h1
        simpa [resOne] using h2
      | v1 :: v2 :: vs, c1 :: c2 :: cs, g2, g3 =>
        have hne : ¬ ((c1 :: c2 :: cs).toArray.size = 1) := by simp
        rw [dif_neg hne]
        refine .tup _ _ (by simpa using g2) fun j v hj => ?_
        obtain ⟨c, h1, h2⟩ := g3 j v hj
        have e : (c1 :: c2 :: cs).toArray.getD j undef = c := by
          rw [Array.getD_eq_getD_getElem?, List.getElem?_toArray, h1]; rfl
        rw [e]; exact h2
  obtain ⟨cv, r1, r2⟩ := hres
  have r3 := hrc S' ρ' w' cv cf.hp r2
  have hrho : ∀ i, get H i ≠ none → rhoW H'' H' ρ' i = ρ i := fun i hi => by
    obtain ⟨ob, z1, _, z3⟩ := hz i (mem_keys.2 hi)
    rw [rhoW_kept (by rw [z1]; simp) z3]
    exact ex.rho i (mem_keys.2 hi)
  -- a block that was own at the beginning is own at the end
  have own0 : ∀ b, LiveF ρ (get H) All b → ¬ Sw H'' H' al S' ρ' b := fun b ⟨i, ob, z, cap, _, hgi, hl, hr⟩ hs => by
    have hne : get H i ≠ none := by rw [hgi]; simp
    obtain ⟨ob', z1, z2, z3⟩ := hz i (mem_keys.2 hne)
    exact (k1.cells_ne z1 z2 (by rw [hrho i hne]; exact hr)).1 hs
  have post : a'.defers = [] ∧ ∃ v, (results fn a'.tmps).run P w' = .ok v w' ∧ ∃ cv S2 ρ2, Ending.returned v = .returned cv ∧ VR w' S2 ρ2 r cv ∧ HRF w' S2 ρ2 (get H') ∧
      Keep w w' (LiveF ρ (get H) All) ∧ (∀ b, S2 b → (al = true ∧ S b) ∨ w.heap.size ≤ b) ∧ (∀ b, LiveF ρ2 (get H') All b → LiveF ρ (get H) All b ∨ w.heap.size ≤ b) ∧
      (∀ i, get H i ≠ none → ρ2 i = ρ i) ∧ (∀ i, get H i ≠ none → get H' i ≠ none) := by
    refine ⟨cf.defers, cv, r1, cv, _, _, rfl, r3, k1, ex.keep, fun b hb => ?_, fun b hb => ?_, hrho, fun i hi => ?_⟩
    · have hn0 : ¬ LiveF ρ (get H) All b := fun h => own0 b h hb
      rcases hb with ⟨ha, hb⟩ | ⟨i, ob, z, cap, _, hg, hl, hr⟩
      · rcases ex.fresh b hb with h1 | h1 | h1
        · exact .inl ⟨ha, h1⟩
        · exact absurd h1 hn0
        · exact .inr h1
      · rcases ex.own b ⟨i, ob, z, cap, trivial, hg, hl, hr⟩ with h1 | h1
        · exact absurd h1 hn0
        · exact .inr h1
    · obtain ⟨i, ob, z, cap, _, hg, hl, hr⟩ := k2 b hb
      exact ex.own b ⟨i, ob, z, cap, trivial, hg, hl, hr⟩
    · obtain ⟨ob, z1, _, _⟩ := hz i (mem_keys.2 hi)
      rw [z1]; simp
  rcases he with rfl | rfl
  · exact post
  · exact post

end
end Go.Proofs.Ytadjdnhnbkcakaa
