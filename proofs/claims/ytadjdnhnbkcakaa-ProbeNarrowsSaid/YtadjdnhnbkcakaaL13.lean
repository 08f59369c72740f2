/-
  One operation of a region, guarded or not, in the whole frame and the whole heap.
-/
import Derived.Test.YtadjdnhnbkcakaaL12
namespace Go.Proofs.Ytadjdnhnbkcakaa
open Go.RowKit

structure MOper where
  dst : Option Nat
  op : MOp
  guard : Option (Nat × Bool)
  pre : List Nat

def preOf (o : Oper) : List Nat := (o.after.toList.filter (Region.binds .any)).map (·.on)

def dstOK (N : Nat) : Option Nat → Bool
  | none => true
  | some d => decide (d < N)

def compOper (P : Program) (N : Nat) (ops : Array Oper) (o : Oper) : Option MOper :=
  match compOp P o.op with
  | none => none
  | some m => if dstOK N o.dst = true then
      match o.guard with
      | none => some ⟨o.dst, m, none, preOf o⟩
      | some (j, want) => match (ops[j]?).bind (·.dst) with
        | some g => some ⟨o.dst, m, some (g, want), preOf o⟩
        | none => none
    else none

def putF (F : List (Nat × AV)) (dst : Option Nat) (v : AV) : List (Nat × AV) :=
  match dst with
  | some d => (d, v) :: F
  | none => F

def MOper.slots (mo : MOper) : List Nat := mo.op.slots ++ match mo.guard with
  | none => []
  | some (g, _) => [g]

/-- One operation of a region, wanted or not. -/
def wpG (P : Program) (ops : Array Oper) (Q : Exit → Act → World → Prop) (o : Oper) (K : Act → World → Prop) (a : Act) (w : World) : Prop :=
  if Region.wanted o (yielded ops a.tmps) = true then o.wp P a w K Q ∨ (o.asks P a w ∧ LetsOut Q) else K (a.put o.dst undef) w

def GT (P : Program) (N : Nat) (ops : Array Oper) (o : Oper) (ts : List Nat) (F : List (Nat × AV)) (H : List (Nat × Ob)) (rd wr : List Nat) (v : AV) (H1 : List (Nat × Ob)) : Prop :=
  ∀ (S : Nat → Prop) (ρ : Rho) (a : Act) (w : World) (Q : Exit → Act → World → Prop) (K : Act → World → Prop), a.tmps.size = N → FRs ts F a w S ρ → (∀ b, S b → b < w.heap.size) →
    HRi (fun i => i ∈ rd ∨ i ∈ wr) w S ρ H → (∀ i, i ∈ wr → get H i = none → ρ i = none) →
    (∀ cv w' S' ρ', VR w' S' ρ' v cv → HRi (fun i => i ∈ rd ∨ i ∈ wr) w' S' ρ' H1 →
      Ext w S (LiveB ρ H fun i => i ∈ rd ∨ i ∈ wr) ρ w' S' (LiveB ρ' H1 fun i => i ∈ rd ∨ i ∈ wr) ρ' (fun i => i ∈ wr ∧ get H i = none) → K (a.put o.dst cv) w') → wpG P ops Q o K a w

/-- What one operation does, of the text's own state: the value, the names read, the names written. -/
structure StepM (P : Program) (N : Nat) (ops : Array Oper) (o : Oper) (mo : MOper) (F : List (Nat × AV)) (H : List (Nat × Ob)) (rd wr : List Nat) (v : AV) (H1 : List (Nat × Ob)) : Prop where
  off : ∀ i, i ∉ wr → get H1 i = get H i
  on : ∀ i, i ∈ wr → (get H1 i).isSome = true
  gt : GT P N ops o mo.slots F H rd wr v H1

theorem compOper_parts {P : Program} {N : Nat} {ops : Array Oper} {o : Oper} {mo : MOper} (h : compOper P N ops o = some mo) : compOp P o.op = some mo.op ∧ o.dst = mo.dst ∧ dstOK N mo.dst = true ∧ mo.pre = preOf o ∧
    ((o.guard = none ∧ mo.guard = none) ∨ ∃ j g want, o.guard = some (j, want) ∧ (ops[j]?).bind (·.dst) = some g ∧ mo.guard = some (g, want)) := by
  unfold compOper at h
  split at h
  · cases h
  · rename_i m hm
    split at h
    · rename_i hd
      split at h
      · rename_i hg
        injection h with h; subst h
        exact ⟨hm, rfl, hd, rfl, .inl ⟨hg, rfl⟩⟩
      · rename_i j want hg
        split at h
        · rename_i g hgd
          injection h with h; subst h
          exact ⟨hm, rfl, hd, rfl, .inr ⟨j, g, want, hg, hgd, rfl⟩⟩
        · cases h
    · cases h

theorem yielded_bool {ops : Array Oper} {j g : Nat} {a : Act} (h : (ops[j]?).bind (·.dst) = some g) {b : Bool} (hv : a.tmps.getD g undef = .bool b) : yielded ops a.tmps j = some b := by
  unfold yielded
  rw [h]
  by_cases hg : g < a.tmps.size
  · have : a.tmps[g]? = some (.bool b) := by rw [getD_some hg, hv]
    simp [this]
  · simp [undef, hg] at hv

theorem yielded_und {ops : Array Oper} {j g : Nat} {a : Act} (h : (ops[j]?).bind (·.dst) = some g) (hv : a.tmps.getD g undef = undef) : yielded ops a.tmps j = none := by
  unfold yielded
  rw [h]
  by_cases hg : g < a.tmps.size
  · have : a.tmps[g]? = some undef := by rw [getD_some hg, hv]
    simp [this, undef]
  · simp [hg]

section
variable {P : Program} {N : Nat} {ops : Array Oper} {o : Oper} {mo : MOper} {F : List (Nat × AV)} {H : List (Nat × Ob)}

/-- An operation that is no call and not guarded, or whose guard says yes. -/
theorem stepM_op (hc : compOper P N ops o = some mo) {K : AV → List Nat → List Nat → List (Nat × Ob) → Prop} {d : Nat} (h : mev F H d K mo.op)
    (hg : mo.guard = none ∨ ∃ g want, mo.guard = some (g, want) ∧ get F g = some (.bool want)) : ∃ v rd wr H1, K v rd wr H1 ∧ StepM P N ops o mo F H rd wr v H1 := by
  obtain ⟨e1, _, _, _, e5⟩ := compOper_parts hc
  obtain ⟨v, rd, wr, H1, hK, hoff, hon, hop⟩ := mev_found e1 h
  refine ⟨v, rd, wr, H1, hK, hoff, hon, fun S ρ a w Q K' hN hF hS hH hnew hK' => ?_⟩
  have hw : Region.wanted o (yielded ops a.tmps) = true := by
    rcases e5 with ⟨g1, _⟩ | ⟨j, g, want, g1, g2, g3⟩
    · simp [Region.wanted, g1]
    · rcases hg with hg | ⟨g', want', hg, hgv⟩
      · rw [g3] at hg; cases hg
      · rw [g3] at hg
        simp only [Option.some.injEq, Prod.mk.injEq] at hg
        obtain ⟨rfl, rfl⟩ := hg
        have hv := (hF g (by simp [MOper.slots, g3]) _ hgv).bool_inv
        simp [Region.wanted, g1, yielded_bool g2 hv]
  unfold wpG
  rw [if_pos hw]
  exact hop S ρ a w Q K' (fun t ht v hv => hF t (by simp [MOper.slots, ht]) v hv) hS hH hnew hK'

/-- An operation whose guard says no, or whose guard did not come to run. -/
theorem stepM_skip (hc : compOper P N ops o = some mo) {g : Nat} {want : Bool} (hg : mo.guard = some (g, want)) (hv : get F g = some (.bool (!want)) ∨ get F g = some .und) : StepM P N ops o mo F H [] [] .und H := by
  obtain ⟨_, _, _, _, e5⟩ := compOper_parts hc
  refine ⟨fun _ _ => rfl, fun _ h => (by cases h), fun S ρ a w Q K' hN hF hS hH hnew hK' => ?_⟩
  have hw : Region.wanted o (yielded ops a.tmps) = false := by
    rcases e5 with ⟨_, g3⟩ | ⟨j, g', want', g1, g2, g3⟩
    · rw [g3] at hg; cases hg
    · rw [g3] at hg
      simp only [Option.some.injEq, Prod.mk.injEq] at hg
      obtain ⟨rfl, rfl⟩ := hg
      rcases hv with hv | hv
      · have := (hF g' (by simp [MOper.slots, g3]) _ hv).bool_inv
        rw [Region.wanted, g1]
        simp only [yielded_bool g2 this]
        cases want' <;> rfl
      · have := (hF g' (by simp [MOper.slots, g3]) _ hv).und_inv
        rw [Region.wanted, g1]
        simp only [yielded_und g2 this]
        rfl
  unfold wpG
  rw [if_neg (by rw [hw]; simp)]
  exact hK' undef w S ρ (.cl .und) hH (Ext.refl _ _ _ _ _ hS)

/-- The frame: every slot that is told. -/
structure FRN (N : Nat) (w : World) (S : Nat → Prop) (ρ : Rho) (f : Nat → Option AV) (a : Act) : Prop where
  size : a.tmps.size = N
  at_ : ∀ t v, f t = some v → VR w S ρ v (a.tmps.getD t undef)

theorem HRF.cells_ne {w : World} {S : Nat → Prop} {ρ : Rho} {h : Nat → Option Ob} (hh : HRF w S ρ h) {i : Nat} {ob : Ob} (hi : h i = some ob) (hl : ob.live = true) {b z cap : Nat} (hr : ρ i = some (some b, z, cap)) : ¬ S b ∧ b < w.heap.size := by
  obtain ⟨bk, z1, c1, q1, q2⟩ := hh.at_.ob i ob trivial hi
  rw [hr] at q1
  injection q1 with q1
  obtain ⟨rfl, rfl, rfl⟩ : some b = bk ∧ z = z1 ∧ cap = c1 := by simpa using q1
  cases ob with
  | dead => cases hl
  | cells e1 z1 els1 fl1 =>
    obtain ⟨_, q3, _, C, q4, _⟩ := q2
    exact ⟨q3, (Array.getElem?_eq_some_iff.1 q4).1⟩
  | mset ks =>
    obtain ⟨b1, es, clk, e1, q3, q4, _⟩ := q2
    injection e1 with e1; subst e1
    exact ⟨q3, (Array.getElem?_eq_some_iff.1 q4).1⟩

/-- From the names that an operation touches to the whole heap. -/
theorem frame_step {rd wr : List Nat} {H1 : List (Nat × Ob)} {w w' : World} {S S' : Nat → Prop} {ρ ρ' : Rho} {h : Nat → Option Ob} (hh : HRF w S ρ h) (hag : ∀ i, i ∈ rd ∨ i ∈ wr → get H i = h i)
    (hoff : ∀ i, i ∉ wr → get H1 i = get H i) (hon : ∀ i, i ∈ wr → (get H1 i).isSome = true) (hpost : HRi (fun i => i ∈ rd ∨ i ∈ wr) w' S' ρ' H1)
    (hext : Ext w S (LiveB ρ H fun i => i ∈ rd ∨ i ∈ wr) ρ w' S' (LiveB ρ' H1 fun i => i ∈ rd ∨ i ∈ wr) ρ' (fun i => i ∈ wr ∧ get H i = none)) :
    HRF w' S' ρ' (fun i => if i ∈ wr then get H1 i else h i) ∧ Ext w S (LiveF ρ h fun _ => True) ρ w' S' (LiveF ρ' (fun i => if i ∈ wr then get H1 i else h i) fun _ => True) ρ' (fun i => h i = none) ∧
      (∀ v c, VR w S ρ v c → VR w' S' ρ' v c) := by
  have hsame : ∀ i, i ∈ rd → i ∉ wr → get H1 i = h i := fun i h1 h2 => (hoff i h2).trans (hag i (.inl h1))
  have hdisS : ∀ b, S b → ¬ LiveB ρ H (fun i => i ∈ rd ∨ i ∈ wr) b := fun b hs ⟨i, ob, z, cap, hI, hg, hl, hr⟩ => by
    rw [hag i hI] at hg
    exact (hh.cells_ne hg hl hr).1 hs
  have hcell := hext.cells hdisS
  have hρ : ∀ i, ¬ (i ∈ wr ∧ get H i = none) → ρ' i = ρ i := hext.rho
  have hρx : ∀ i x, ρ i = some x → ρ' i = some x := fun i x hx => by
    rw [hρ i fun ⟨h1, h2⟩ => by rw [hag i (.inr h1)] at h2; rw [hh.dom i h2] at hx; cases hx]; exact hx
  have hold : ∀ i, ¬ (i ∈ rd ∨ i ∈ wr) → ρ' i = ρ i := fun i hi => hρ i fun ⟨h1, _⟩ => hi (.inr h1)
  -- the other objects' blocks are not touched
  have far : ∀ i ob b z cap, ¬ (i ∈ rd ∨ i ∈ wr) → h i = some ob → ob.live = true → ρ i = some (some b, z, cap) → ¬ LiveB ρ H (fun i => i ∈ rd ∨ i ∈ wr) b := fun i ob b z cap hi hg hl hr ⟨k, ob', z', cap', hI, hg', hl', hr'⟩ => by
    rw [hag k hI] at hg'
    exact hh.at_.dis i k ob ob' b z z' cap cap' trivial trivial (fun e => hi (by rw [e]; exact hI)) hg hg' hl hl' hr hr'
  have touched : ∀ i ob, (i ∈ rd ∨ i ∈ wr) → (if i ∈ wr then get H1 i else h i) = some ob → get H1 i = some ob := fun i ob hi hg => by
    by_cases hw : i ∈ wr
    · rwa [if_pos hw] at hg
    · rw [if_neg hw] at hg
      rw [hsame i (hi.resolve_right hw) hw]; exact hg
  have untouched : ∀ i ob, ¬ (i ∈ rd ∨ i ∈ wr) → (if i ∈ wr then get H1 i else h i) = some ob → h i = some ob := fun i ob hi hg => by
    rwa [if_neg fun hw => hi (.inr hw)] at hg
  have liveI : ∀ b, LiveB ρ' H1 (fun i => i ∈ rd ∨ i ∈ wr) b → LiveB ρ H (fun i => i ∈ rd ∨ i ∈ wr) b ∨ w.heap.size ≤ b := hext.own
  have mixed : ∀ i k oi ok b z1 z2 c1 c2, (i ∈ rd ∨ i ∈ wr) → ¬ (k ∈ rd ∨ k ∈ wr) → get H1 i = some oi → h k = some ok → oi.live = true → ok.live = true → ρ' i = some (some b, z1, c1) → ρ' k = some (some b, z2, c2) → False :=
    fun i k oi ok b z1 z2 c1 c2 hi hk hgi hgk hli hlk hri hrk => by
      rw [hold k hk] at hrk
      rcases liveI b ⟨i, oi, z1, c1, hi, hgi, hli, hri⟩ with h1 | h1
      · exact far k ok b z2 c2 hk hgk hlk hrk h1
      · have := (hh.cells_ne hgk hlk hrk).2; omega
  refine ⟨⟨hext.size, fun i hi => ?_, fun i ob _ hg => ?_, fun i k oi ok b z1 z2 c1 c2 _ _ hne hgi hgk hli hlk hri hrk => ?_⟩, ⟨hext.keep.mono fun b hb => ?_, hext.sub, hext.fresh, hext.size, fun b hb => ?_, fun i hi => hρ i fun ⟨h1, h2⟩ => hi (by rw [hag i (.inr h1)] at h2; exact h2)⟩,
    fun v c hv => hv.mono hext.sub hcell hρx⟩
  · by_cases hw : i ∈ wr
    · have := hon i hw
      rw [if_pos hw] at hi
      rw [hi] at this; cases this
    · rw [if_neg hw] at hi
      rw [hρ i fun ⟨h1, _⟩ => hw h1]; exact hh.dom i hi
  · by_cases hI : i ∈ rd ∨ i ∈ wr
    · exact hpost.ob i ob hI (touched i ob hI hg)
    · have hg' := untouched i ob hI hg
      obtain ⟨bk, z, cap, q1, q2⟩ := hh.at_.ob i ob trivial hg'
      refine ⟨bk, z, cap, by rw [hold i hI]; exact q1, q2.mono hext.sub hcell hρx fun b hb hl => ?_⟩
      subst hb
      obtain ⟨hnS, hlt⟩ := hh.cells_ne hg' hl q1
      refine ⟨hext.keep.block b hlt (far i ob b z cap hI hg' hl q1), fun hs => ?_⟩
      rcases hext.fresh b hs with h1 | h1
      · exact hnS h1
      · omega
  · by_cases hI : i ∈ rd ∨ i ∈ wr
    · have gi := touched i oi hI hgi
      by_cases hK : k ∈ rd ∨ k ∈ wr
      · exact hpost.dis i k oi ok b z1 z2 c1 c2 hI hK hne gi (touched k ok hK hgk) hli hlk hri hrk
      · exact mixed i k oi ok b z1 z2 c1 c2 hI hK gi (untouched k ok hK hgk) hli hlk hri hrk
    · have gi := untouched i oi hI hgi
      by_cases hK : k ∈ rd ∨ k ∈ wr
      · exact mixed k i ok oi b z2 z1 c2 c1 hK hI (touched k ok hK hgk) gi hlk hli hrk hri
      · rw [hold i hI] at hri
        rw [hold k hK] at hrk
        exact hh.at_.dis i k oi ok b z1 z2 c1 c2 trivial trivial hne gi (untouched k ok hK hgk) hli hlk hri hrk
  · obtain ⟨i, ob, z, cap, hI, hg, hl, hr⟩ := hb
    exact ⟨i, ob, z, cap, trivial, by rw [← hag i hI]; exact hg, hl, hr⟩
  · obtain ⟨i, ob, z, cap, _, hg, hl, hr⟩ := hb
    by_cases hI : i ∈ rd ∨ i ∈ wr
    · rcases liveI b ⟨i, ob, z, cap, hI, touched i ob hI hg, hl, hr⟩ with ⟨k, ob', z', cap', hK, hg', hl', hr'⟩ | h1
      · exact .inl ⟨k, ob', z', cap', trivial, by rw [← hag k hK]; exact hg', hl', hr'⟩
      · exact .inr h1
    · rw [hold i hI] at hr
      exact .inl ⟨i, ob, z, cap, trivial, untouched i ob hI hg, hl, hr⟩

theorem put_getD {a : Act} {d t : Nat} {v : Value} (hd : d < a.tmps.size) : (a.put (some d) v).tmps.getD t undef = if t = d then v else a.tmps.getD t undef := by
  simp only [Act.put, Array.getD_eq_getD_getElem?, Array.getElem?_setIfInBounds]
  by_cases h : d = t
  · subst h; simp [hd]
  · simp [h, Ne.symm h]

theorem put_size (a : Act) (d : Option Nat) (v : Value) : (a.put d v).tmps.size = a.tmps.size := by
  cases d <;> simp [Act.put]

theorem put_defers (a : Act) (d : Option Nat) (v : Value) : (a.put d v).defers = a.defers := by
  cases d <;> rfl

/-- The frame behind an operation. -/
theorem FRN.put {w w' : World} {S S' : Nat → Prop} {ρ ρ' : Rho} {f : Nat → Option AV} {a : Act} (h : FRN N w S ρ f a) (hm : ∀ v c, VR w S ρ v c → VR w' S' ρ' v c) {dst : Option Nat} (hd : dstOK N dst = true) {v : AV} {cv : Value} (hv : VR w' S' ρ' v cv) :
    FRN N w' S' ρ' (fun t => if some t = dst then some v else f t) (a.put dst cv) := by
  refine ⟨by rw [put_size]; exact h.size, fun t u hu => ?_⟩
  cases dst with
  | none => simp at hu; exact hm _ _ (h.at_ t u hu)
  | some d =>
    have hdN : d < a.tmps.size := by rw [h.size]; simpa [dstOK] using hd
    rw [put_getD hdN]
    by_cases htd : t = d
    · subst htd; simp at hu; subst hu; rw [if_pos rfl]; exact hv
    · simp [htd] at hu; rw [if_neg htd]; exact hm _ _ (h.at_ t u hu)

end
end Go.Proofs.Ytadjdnhnbkcakaa
