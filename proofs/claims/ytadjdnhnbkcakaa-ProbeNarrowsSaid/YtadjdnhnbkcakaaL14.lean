/-
  Regions: the operations one after the other; and those whose order the tape draws.
-/
import Derived.Test.YtadjdnhnbkcakaaL13
namespace Go.Proofs.Ytadjdnhnbkcakaa
open Go.RowKit

abbrev Fp := List Nat × List Nat

inductive SeqM (P : Program) (N : Nat) (ops : Array Oper) : List Oper → List MOper → List (Nat × AV) → List (Nat × Ob) → List Fp → List (Nat × AV) → List (Nat × Ob) → Prop where
  | nil (F : List (Nat × AV)) (H : List (Nat × Ob)) : SeqM P N ops [] [] F H [] F H
  | cons {o : Oper} {mo : MOper} {l : List Oper} {ml : List MOper} {F : List (Nat × AV)} {H : List (Nat × Ob)} {rd wr : List Nat} {v : AV} {H1 : List (Nat × Ob)} {fps : List Fp} {F' : List (Nat × AV)} {H' : List (Nat × Ob)}
      (hc : compOper P N ops o = some mo) (hs : StepM P N ops o mo F H rd wr v H1) (h : SeqM P N ops l ml (putF F mo.dst v) H1 fps F' H') : SeqM P N ops (o :: l) (mo :: ml) F H ((rd, wr) :: fps) F' H'

abbrev All : Nat → Prop := fun _ => True

/-- From one configuration to a later one. -/
abbrev ExtH (w : World) (S : Nat → Prop) (ρ : Rho) (h : Nat → Option Ob) (w' : World) (S' : Nat → Prop) (ρ' : Rho) (h' : Nat → Option Ob) : Prop :=
  Ext w S (LiveF ρ h All) ρ w' S' (LiveF ρ' h' All) ρ' (fun i => h i = none)

theorem ExtH.trans {w w1 w2 : World} {S S1 S2 : Nat → Prop} {ρ ρ1 ρ2 : Rho} {h h1 h2 : Nat → Option Ob} (e1 : ExtH w S ρ h w1 S1 ρ1 h1) (e2 : ExtH w1 S1 ρ1 h1 w2 S2 ρ2 h2) (hn : ∀ i, h1 i = none → h i = none) :
    ExtH w S ρ h w2 S2 ρ2 h2 :=
  ⟨e1.keep.trans e2.keep e1.own, fun b hb => e2.sub b (e1.sub b hb), fun b hb => (e2.fresh b hb).elim (fun h => e1.fresh b h) fun h => .inr (Nat.le_trans e1.keep.size h), e2.size,
    fun b hb => (e2.own b hb).elim (fun h => e1.own b h) fun h => .inr (Nat.le_trans e1.keep.size h), fun i hi => (e2.rho i fun h => hi (hn i h)).trans (e1.rho i hi)⟩

theorem get_putF {F : List (Nat × AV)} {dst : Option Nat} {v : AV} (t : Nat) : get (putF F dst v) t = if some t = dst then some v else get F t := by
  cases dst with
  | none => simp [putF]
  | some d =>
    simp only [putF, get]
    by_cases h : d = t
    · subst h; simp
    · simp [h, Ne.symm h]

theorem StepM.get_ {P : Program} {N : Nat} {ops : Array Oper} {o : Oper} {mo : MOper} {F : List (Nat × AV)} {H H1 : List (Nat × Ob)} {rd wr : List Nat} {v : AV} (h : StepM P N ops o mo F H rd wr v H1) :
    (fun i => if i ∈ wr then get H1 i else get H i) = get H1 := by
  funext i
  by_cases hw : i ∈ wr
  · rw [if_pos hw]
  · rw [if_neg hw, h.off i hw]

/-- One operation, from a configuration that agrees with the text's where the operation looks. -/
theorem step_conf {P : Program} {N : Nat} {ops : Array Oper} {o : Oper} {mo : MOper} {F : List (Nat × AV)} {H H1 : List (Nat × Ob)} {rd wr : List Nat} {v : AV} (hc : compOper P N ops o = some mo)
    (hs : StepM P N ops o mo F H rd wr v H1) {S : Nat → Prop} {ρ : Rho} {a : Act} {w : World} {f : Nat → Option AV} {h : Nat → Option Ob} (hF : FRN N w S ρ f a) (hH : HRF w S ρ h)
    (hf : ∀ t, t ∈ mo.slots → get F t = f t) (hh : ∀ i, i ∈ rd ∨ i ∈ wr → get H i = h i) {Q : Exit → Act → World → Prop} {K : Act → World → Prop}
    (hK : ∀ S' ρ' a' w', FRN N w' S' ρ' (fun t => if some t = mo.dst then some v else f t) a' → a'.defers = a.defers → HRF w' S' ρ' (fun i => if i ∈ wr then get H1 i else h i) →
      ExtH w S ρ h w' S' ρ' (fun i => if i ∈ wr then get H1 i else h i) → K a' w') : wpG P ops Q o K a w := by
  obtain ⟨_, hd, hdok, _⟩ := compOper_parts hc
  refine hs.gt S ρ a w Q K hF.size (fun t ht u hu => hF.at_ t u (by rw [← hf t ht]; exact hu)) hH.hS
    ⟨fun i ob hi hg => hH.at_.ob i ob trivial (by rw [← hh i hi]; exact hg), fun i j oi oj b z z' c c' hi hj hne hgi hgj => hH.at_.dis i j oi oj b z z' c c' trivial trivial hne (by rw [← hh i hi]; exact hgi) (by rw [← hh j hj]; exact hgj)⟩
    (fun i hi hn => hH.dom i (by rw [← hh i (.inr hi)]; exact hn)) fun cv w' S' ρ' hv hpost hext => ?_
  obtain ⟨g1, g2, g3⟩ := frame_step hH hh hs.off hs.on hpost hext
  rw [hd]
  exact hK S' ρ' _ w' (hF.put g3 hdok hv) (put_defers _ _ _) g1 g2

theorem seq_wpList {P : Program} {N : Nat} {ops : Array Oper} {l : List Oper} {ml : List MOper} {F F' : List (Nat × AV)} {H H' : List (Nat × Ob)} {fps : List Fp} (hs : SeqM P N ops l ml F H fps F' H') :
    ∀ {S : Nat → Prop} {ρ : Rho} {a : Act} {w : World} {Q : Exit → Act → World → Prop}, FRN N w S ρ (get F) a → HRF w S ρ (get H) →
    (∀ S' ρ' a' w', FRN N w' S' ρ' (get F') a' → a'.defers = a.defers → HRF w' S' ρ' (get H') → ExtH w S ρ (get H) w' S' ρ' (get H') → Q .normal a' w') → wpList P ops Q l a w := by
  induction hs with
  | nil F H =>
    intro S ρ a w Q hF hH hQ
    exact hQ S ρ a w hF rfl hH (Ext.refl _ _ _ _ _ hH.hS)
  | cons hc hs _ ih =>
    intro S ρ a w Q hF hH hQ
    rename_i o mo l ml F H rd wr v H1 fps F' H' hrest
    unfold wpList
    refine step_conf hc hs hF hH (fun _ _ => rfl) (fun _ _ => rfl) fun S1 ρ1 a1 w1 hF1 hd1 hH1 hE1 => ?_
    rw [hs.get_] at hH1 hE1
    have hF1' : FRN N w1 S1 ρ1 (get (putF F mo.dst v)) a1 := by
      have e : get (putF F mo.dst v) = fun t => if some t = mo.dst then some v else get F t := funext get_putF
      rw [e]; exact hF1
    refine ih hF1' hH1 fun S2 ρ2 a2 w2 hF2 hd2 hH2 hE2 => hQ S2 ρ2 a2 w2 hF2 (hd2.trans hd1) hH2 (ExtH.trans hE1 hE2 fun i hi => ?_)
    by_cases hw : i ∈ wr
    · have := hs.on i hw; rw [hi] at this; cases this
    · rw [← hs.off i hw]; exact hi

/-- The operations that must have run before each, as bits. -/
def maskStep (acc : List Nat) (p : List Nat) : Nat := p.foldl (fun s k => s ||| (2 ^ k ||| acc.getD k 0)) 0
def masks : List (List Nat) → List Nat → List Nat
  | [], acc => acc
  | p :: ps, acc => masks ps (acc ++ [maskStep acc p])

def overlap (a b : List Nat) : Bool := a.any fun x => b.contains x

/-- Two operations that may not change places. -/
def clashes (x y : MOper × Fp) : Bool :=
  (match x.1.dst with
   | some d => y.1.slots.contains d || y.1.dst == some d
   | none => false) ||
  (match y.1.dst with
   | some d => x.1.slots.contains d
   | none => false) || overlap x.2.2 (y.2.1 ++ y.2.2) || overlap x.2.1 y.2.2

def okRow (ms : List Nat) (L : List (MOper × Fp)) (j : Nat) (y : MOper × Fp) : Bool :=
  y.1.pre.all (fun k => decide (k < j)) && (L.zipIdx.all fun (x, k) => !(decide (k < j)) || !clashes x y || (ms.getD j 0).testBit k)

def okDraw (L : List (MOper × Fp)) : Bool :=
  let ms := masks (L.map (·.1.pre)) []
  L.zipIdx.all fun (y, j) => okRow ms L j y

theorem maskStep_spec {E : Nat → Prop} {acc : List Nat} (hacc : ∀ k b, (acc.getD k 0).testBit b = true → E k → E b) : ∀ (p : List Nat) (s : Nat), (∀ b, s.testBit b = true → E b) → (∀ k, k ∈ p → E k) →
    ∀ b, (p.foldl (fun s k => s ||| (2 ^ k ||| acc.getD k 0)) s).testBit b = true → E b
  | [], s, hs, _, b, hb => hs b hb
  | k :: p, s, hs, hp, b, hb => by
    simp only [List.foldl_cons] at hb
    refine maskStep_spec hacc p _ (fun c hc => ?_) (fun x hx => hp x (by simp [hx])) b hb
    simp only [Nat.testBit_or, Bool.or_eq_true] at hc
    rcases hc with hc | hc | hc
    · exact hs c hc
    · have : c = k := by
        rw [Nat.testBit_two_pow] at hc; have hc2 : k = c := by simpa using hc
        exact hc2.symm
      subst this; exact hp c (by simp)
    · exact hacc k c hc (hp k (by simp))

/-- A closed set holds what the masks say, at every list of masks. -/
theorem masks_spec {E : Nat → Prop} : ∀ (ps : List (List Nat)) (acc : List Nat), (∀ k b, (acc.getD k 0).testBit b = true → E k → E b) →
    (∀ j p, ps[j]? = some p → E (acc.length + j) → ∀ k, k ∈ p → E k) → ∀ j b, ((masks ps acc).getD j 0).testBit b = true → E j → E b
  | [], acc, hacc, _, j, b, hb, hE => hacc j b hb hE
  | p :: ps, acc, hacc, hp, j, b, hb, hE => by
    simp only [masks] at hb
    refine masks_spec ps (acc ++ [maskStep acc p]) (fun k c hc hk => ?_) (fun i q hq hE k hk => ?_) j b hb hE
    · by_cases hkl : k < acc.length
      · rw [List.getD_eq_getElem?_getD, List.getElem?_append_left hkl, ← List.getD_eq_getElem?_getD] at hc
        exact hacc k c hc hk
      · by_cases hke : k = acc.length
        · subst hke
          have e : (acc ++ [maskStep acc p]).getD acc.length 0 = maskStep acc p := by simp [List.getD]
          rw [e] at hc
          exact maskStep_spec hacc p 0 (fun b hb => by simp at hb) (hp 0 p rfl (by simpa using hk)) c hc
        · have e : (acc ++ [maskStep acc p]).getD k 0 = 0 := by
            rw [List.getD_eq_getElem?_getD, List.getElem?_eq_none (by simp; omega)]; rfl
          rw [e] at hc; simp at hc
    · refine hp (i + 1) q (by simpa using hq) ?_ k hk
      have : (acc ++ [maskStep acc p]).length + i = acc.length + (i + 1) := by simp; omega
      rwa [this] at hE

end Go.Proofs.Ytadjdnhnbkcakaa
