/-
  Code: the judgement 'AW' and its rules.
-/
import Derived.Test.YtadjdnhnbkcakaaL15
namespace Go.Proofs.Ytadjdnhnbkcakaa
open Go.RowKit

inductive MC where
  | skip
  | reg (ops : List MOper) (draw : Bool)
  | seq (a b : MC)
  | cond (x : Arg) (a b : MC)
  | block (id : Nat) (c : MC)
  | loop (c : MC)
  | exit (id : Nat)
  | ret

def compOpers (P : Program) (N : Nat) (ops : Array Oper) : List Oper → Option (List MOper)
  | [] => some []
  | o :: l => match compOper P N ops o, compOpers P N ops l with
    | some m, some ms => some (m :: ms)
    | _, _ => none

def compC (P : Program) (N : Nat) : Code → Option MC
  | .skip => some .skip
  | .region _ ops draw => match compOpers P N ops ops.toList with
    | some ms => some (.reg ms draw)
    | none => none
  | .seq a b => match compC P N a, compC P N b with
    | some x, some y => some (.seq x y)
    | _, _ => none
  | .cond c a b => match carg c, compC P N a, compC P N b with
    | some r, some x, some y => some (.cond r x y)
    | _, _, _ => none
  | .block id c => match compC P N c with
    | some x => some (.block id x)
    | none => none
  | .loop c => match compC P N c with
    | some x => some (.loop x)
    | none => none
  | .exit id => some (.exit id)
  | .ret => some .ret
  | _ => none

/-- From one configuration to a later one, names given up and frozen let in; the names in Z stand for what they stood for. -/
structure ExtZ (Z : List Nat) (w : World) (S : Nat → Prop) (ρ : Rho) (h : Nat → Option Ob) (w' : World) (S' : Nat → Prop) (ρ' : Rho) (h' : Nat → Option Ob) : Prop where
  keep : Keep w w' (LiveF ρ h All)
  sub : ∀ b, S b → S' b
  fresh : ∀ b, S' b → S b ∨ LiveF ρ h All b ∨ w.heap.size ≤ b
  own : ∀ b, LiveF ρ' h' All b → LiveF ρ h All b ∨ w.heap.size ≤ b
  rho : ∀ i, i ∈ Z → ρ' i = ρ i

theorem ExtZ.refl (Z : List Nat) (w : World) (S : Nat → Prop) (ρ : Rho) (h : Nat → Option Ob) : ExtZ Z w S ρ h w S ρ h := ⟨Keep.refl _ _, fun _ h => h, fun _ h => .inl h, fun _ h => .inl h, fun _ _ => rfl⟩

theorem ExtZ.trans {Z : List Nat} {w w1 w2 : World} {S S1 S2 : Nat → Prop} {ρ ρ1 ρ2 : Rho} {h h1 h2 : Nat → Option Ob} (e1 : ExtZ Z w S ρ h w1 S1 ρ1 h1) (e2 : ExtZ Z w1 S1 ρ1 h1 w2 S2 ρ2 h2) : ExtZ Z w S ρ h w2 S2 ρ2 h2 :=
  ⟨e1.keep.trans e2.keep e1.own, fun b hb => e2.sub b (e1.sub b hb),
    fun b hb => (e2.fresh b hb).elim (fun h => e1.fresh b h) fun h => h.elim (fun h => .inr (e1.own b h)) fun h => .inr (.inr (Nat.le_trans e1.keep.size h)),
    fun b hb => (e2.own b hb).elim (fun h => e1.own b h) fun h => .inr (Nat.le_trans e1.keep.size h), fun i hi => (e2.rho i hi).trans (e1.rho i hi)⟩

def Zok (Z : List Nat) (H : List (Nat × Ob)) : Prop := ∀ i, i ∈ Z → get H i ≠ none

theorem ExtH.z {Z : List Nat} {w w' : World} {S S' : Nat → Prop} {ρ ρ' : Rho} {h h' : Nat → Option Ob} (e : ExtH w S ρ h w' S' ρ' h') (hz : ∀ i, i ∈ Z → h i ≠ none) : ExtZ Z w S ρ h w' S' ρ' h' :=
  ⟨e.keep, e.sub, fun b hb => (e.fresh b hb).elim .inl fun h => .inr (.inr h), e.own, fun i hi => e.rho i (hz i hi)⟩

abbrev Fr := List (Nat × AV)
abbrev Hp := List (Nat × Ob)
abbrev Post := Exit → Fr → Hp → Prop

/-- A configuration that is as the abstract frame and heap say. -/
structure Conf (N : Nat) (Z : List Nat) (F : Fr) (H : Hp) (S : Nat → Prop) (ρ : Rho) (a : Act) (w : World) : Prop where
  fr : FRN N w S ρ (get F) a
  defers : a.defers = []
  hp : HRF w S ρ (get H)
  z : Zok Z H

/-- What is reached. -/
def Reach (N : Nat) (Z : List Nat) (Q : Post) (S : Nat → Prop) (ρ : Rho) (H : Hp) (w : World) (e : Exit) (a' : Act) (w' : World) : Prop :=
  ∃ F' H' S' ρ', Q e F' H' ∧ Conf N Z F' H' S' ρ' a' w' ∧ ExtZ Z w S ρ (get H) w' S' ρ' (get H')

def AW (P : Program) (N : Nat) (Z : List Nat) (c : MC) (Q : Post) (F : Fr) (H : Hp) : Prop :=
  ∀ code, compC P N code = some c → ∀ S ρ a w, Conf N Z F H S ρ a w → code.wp P (Reach N Z Q S ρ H w) a w

/-- Weaker frames and heaps. -/
def Weak (N : Nat) (Z : List Nat) (F : Fr) (H : Hp) (F0 : Fr) (H0 : Hp) : Prop :=
  ∀ S ρ a w, Conf N Z F H S ρ a w → ∃ S' ρ', Conf N Z F0 H0 S' ρ' a w ∧ ExtZ Z w S ρ (get H) w S' ρ' (get H0)

theorem Weak.refl (N : Nat) (Z : List Nat) (F : Fr) (H : Hp) : Weak N Z F H F H := fun S ρ a w h => ⟨S, ρ, h, ExtZ.refl _ _ _ _ _⟩
theorem Weak.trans {N : Nat} {Z : List Nat} {F F1 F2 : Fr} {H H1 H2 : Hp} (h1 : Weak N Z F H F1 H1) (h2 : Weak N Z F1 H1 F2 H2) : Weak N Z F H F2 H2 := fun S ρ a w h => by
  obtain ⟨S1, ρ1, c1, e1⟩ := h1 S ρ a w h
  obtain ⟨S2, ρ2, c2, e2⟩ := h2 S1 ρ1 a w c1
  exact ⟨S2, ρ2, c2, e1.trans e2⟩

theorem least_of {p : Nat → Prop} (h : ∃ n, p n) : ∃ n, p n ∧ ∀ m, p m → n ≤ m := by
  obtain ⟨n, hn⟩ := h
  induction n using Nat.strongRecOn with
  | _ n ih =>
    by_cases hx : ∃ m, m < n ∧ p m
    · obtain ⟨m, hm, hp⟩ := hx
      exact ih m hm hp
    · exact ⟨n, hn, fun m hm => Nat.le_of_not_lt fun hlt => hx ⟨m, hlt, hm⟩⟩

section rules
variable {P : Program} {N : Nat} {Z : List Nat} {Q : Post} {F : Fr} {H : Hp}

theorem Reach.of {S S1 : Nat → Prop} {ρ ρ1 : Rho} {H1 : Hp} {w w1 : World} {e : Exit} {a' : Act} {w' : World} (he : ExtZ Z w S ρ (get H) w1 S1 ρ1 (get H1)) (h : Reach N Z Q S1 ρ1 H1 w1 e a' w') : Reach N Z Q S ρ H w e a' w' := by
  obtain ⟨F', H', S', ρ', q, c, e⟩ := h
  exact ⟨F', H', S', ρ', q, c, he.trans e⟩

theorem aw_mono {c : MC} {Q' : Post} (h : AW P N Z c Q F H) (hq : ∀ e F' H', Q e F' H' → Q' e F' H') : AW P N Z c Q' F H := fun code hc S ρ a w hcf =>
  wp_mono (h code hc S ρ a w hcf) fun e a' w' ⟨F', H', S', ρ', q, r⟩ => ⟨F', H', S', ρ', hq _ _ _ q, r⟩

theorem aw_weak {c : MC} {F0 : Fr} {H0 : Hp} (hw : Weak N Z F H F0 H0) (h : AW P N Z c Q F0 H0) : AW P N Z c Q F H := fun code hc S ρ a w hcf => by
  obtain ⟨S1, ρ1, c1, e1⟩ := hw S ρ a w hcf
  exact wp_mono (h code hc S1 ρ1 a w c1) fun e a' w' hr => hr.of e1

/-- Weakening in the post. -/
def WQ (N : Nat) (Z : List Nat) (Q : Post) : Post := fun e F H => ∃ F0 H0, Weak N Z F H F0 H0 ∧ Q e F0 H0

theorem aw_post {c : MC} (h : AW P N Z c (WQ N Z Q) F H) : AW P N Z c Q F H := fun code hc S ρ a w hcf =>
  wp_mono (h code hc S ρ a w hcf) fun e a' w' ⟨F', H', S', ρ', ⟨F0, H0, hw, q⟩, cf, ex⟩ => by
    obtain ⟨S1, ρ1, c1, e1⟩ := hw S' ρ' a' w' cf
    exact ⟨F0, H0, S1, ρ1, q, c1, ex.trans e1⟩

theorem aw_skip (h : Q .normal F H) : AW P N Z .skip Q F H := fun code hc S ρ a w hcf => by
  cases code <;> simp [compC] at hc
  · exact wp_skip ⟨F, H, S, ρ, h, hcf, ExtZ.refl _ _ _ _ _⟩
  all_goals (repeat' split at hc) <;> cases hc

theorem aw_exit {id : Nat} (h : Q (.exit id) F H) : AW P N Z (.exit id) Q F H := fun code hc S ρ a w hcf => by
  cases code <;> simp [compC] at hc
  case exit i => subst hc; exact wp_exit ⟨F, H, S, ρ, h, hcf, ExtZ.refl _ _ _ _ _⟩
  all_goals (repeat' split at hc) <;> cases hc

theorem aw_ret (h : Q .ret F H) : AW P N Z .ret Q F H := fun code hc S ρ a w hcf => by
  cases code <;> simp [compC] at hc
  case ret => exact wp_ret ⟨F, H, S, ρ, h, hcf, ExtZ.refl _ _ _ _ _⟩
  all_goals (repeat' split at hc) <;> cases hc

/-- What follows where a piece ends as it should; all else as it is. -/
def Then (next : Fr → Hp → Prop) (Q : Post) : Post
  | .normal, F, H => next F H
  | e, F, H => Q e F H

def InBlock (id : Nat) (Q : Post) : Post
  | .exit i, F, H => if i = id then Q .normal F H else Q (.exit i) F H
  | e, F, H => Q e F H

theorem aw_seq {x y : MC} (h : AW P N Z x (Then (AW P N Z y Q) Q) F H) : AW P N Z (.seq x y) Q F H := fun code hc S ρ a w hcf => by
  cases code <;> simp [compC] at hc
  case seq cx cy =>
    split at hc
    · rename_i x' y' hx hy
      simp at hc
      obtain ⟨rfl, rfl⟩ := hc
      refine wp_seq (wp_mono (h cx hx S ρ a w hcf) fun e a' w' ⟨F', H', S', ρ', q, cf, ex⟩ => ?_)
      cases e <;> first | exact wp_mono (q cy hy S' ρ' a' w' cf) (fun _ _ _ hr => hr.of ex) | exact ⟨F', H', S', ρ', q, cf, ex⟩
    · cases hc
  all_goals (repeat' split at hc) <;> cases hc

theorem aw_cond {x : Arg} {y z : MC} {t : Bool} (ht : aarg F x = some (.bool t)) (h1 : t = true → AW P N Z y Q F H) (h2 : t = false → AW P N Z z Q F H) : AW P N Z (.cond x y z) Q F H := fun code hc S ρ a w hcf => by
  cases code <;> simp [compC] at hc
  case cond cx cy cz =>
    split at hc
    · rename_i x' y' z' hx hy hz
      simp at hc
      obtain ⟨rfl, rfl, rfl⟩ := hc
      have e := (carg_ok hx (ts := x'.slots) (fun t _ v hv => hcf.fr.at_ t v hv) (fun _ h => h) ht).bool_inv
      exact wp_cond_split e (fun e1 => h1 e1 cy hy S ρ a w hcf) fun e1 => h2 e1 cz hz S ρ a w hcf
    · cases hc
  all_goals (repeat' split at hc) <;> cases hc

theorem aw_block {id : Nat} {x : MC} (h : AW P N Z x (InBlock id Q) F H) : AW P N Z (.block id x) Q F H := fun code hc S ρ a w hcf => by
  cases code <;> simp [compC] at hc
  case block i cx =>
    split at hc
    · rename_i x' hx
      simp at hc
      obtain ⟨rfl, rfl⟩ := hc
      refine wp_block (wp_mono (h cx hx S ρ a w hcf) fun e a' w' ⟨F', H', S', ρ', q, cf, ex⟩ => ?_)
      cases e with
      | exit k =>
        simp only [Exit.inBlock]
        simp only [InBlock] at q
        split
        · rename_i hk; rw [if_pos hk] at q; exact ⟨F', H', S', ρ', q, cf, ex⟩
        · rename_i hk; rw [if_neg hk] at q; exact ⟨F', H', S', ρ', q, cf, ex⟩
      | _ => exact ⟨F', H', S', ρ', q, cf, ex⟩
    · cases hc
  all_goals (repeat' split at hc) <;> cases hc

theorem aw_loop {x : MC} (I : Nat → Fr → Hp → Prop) (n : Nat) (h0 : I n F H)
    (round : ∀ n F H, I n F H → AW P N Z x (Then (fun F' H' => ∃ m F0 H0, m < n ∧ Weak N Z F' H' F0 H0 ∧ I m F0 H0) Q) F H) : AW P N Z (.loop x) Q F H := fun code hc S ρ a w hcf => by
  cases code <;> simp [compC] at hc
  case loop cx =>
    split at hc
    · rename_i x' hx
      simp at hc
      subst hc
      classical
      let J : Nat → Act → World → Prop := fun m a' w' => ∃ F' H' S' ρ', I m F' H' ∧ Conf N Z F' H' S' ρ' a' w' ∧ ExtZ Z w S ρ (get H) w' S' ρ' (get H')
      let μ : Act → World → Nat := fun a' w' => if h : ∃ m, J m a' w' then Classical.choose (least_of h) else 0
      refine wp_loop (fun a' w' => ∃ m, J m a' w') μ ⟨n, F, H, S, ρ, h0, hcf, ExtZ.refl _ _ _ _ _⟩ fun a1 w1 hI => ?_
      have hμ : μ a1 w1 = Classical.choose (least_of hI) := by simp only [μ]; rw [dif_pos hI]
      obtain ⟨F1, H1, S1, ρ1, i1, c1, e1⟩ := (Classical.choose_spec (least_of hI)).1
      refine wp_mono (round (Classical.choose (least_of hI)) F1 H1 i1 cx hx S1 ρ1 a1 w1 c1) fun e a2 w2 ⟨F2, H2, S2, ρ2, q, c2, e2⟩ => ?_
      cases e with
      | normal =>
        obtain ⟨m, F3, H3, hm, hw, i3⟩ := q
        obtain ⟨S3, ρ3, c3, e3⟩ := hw S2 ρ2 a2 w2 c2
        have hj : J m a2 w2 := ⟨F3, H3, S3, ρ3, i3, c3, e1.trans (e2.trans e3)⟩
        refine ⟨⟨m, hj⟩, ?_⟩
        have hle : μ a2 w2 ≤ m := by
          simp only [μ]
          rw [dif_pos ⟨m, hj⟩]
          exact (Classical.choose_spec (least_of ⟨m, hj⟩)).2 m hj
        rw [hμ]; omega
      | _ => exact ⟨F2, H2, S2, ρ2, q, c2, e1.trans e2⟩
    · cases hc
  all_goals (repeat' split at hc) <;> cases hc

/-- The operations of a region, one by one: 'acc' holds the names read and written so far, the last first. -/
def RS (P : Program) (N : Nat) (ml : List MOper) (F : Fr) (H : Hp) (K : List Fp → Fr → Hp → Prop) : Prop :=
  ∀ ops l, compOpers P N ops l = some ml → ∃ fps F' H', SeqM P N ops l ml F H fps F' H' ∧ K fps F' H'

theorem rs_nil {K : List Fp → Fr → Hp → Prop} (h : K [] F H) : RS P N [] F H K := fun ops l hl => by
  cases l with
  | nil => exact ⟨[], F, H, .nil F H, h⟩
  | cons o l => simp only [compOpers] at hl; split at hl <;> cases hl

theorem rs_cons {mo : MOper} {ml : List MOper} {K : List Fp → Fr → Hp → Prop}
    (h : ∀ ops o, compOper P N ops o = some mo → ∃ v rd wr H1, StepM P N ops o mo F H rd wr v H1 ∧ RS P N ml (putF F mo.dst v) H1 (fun fps => K ((rd, wr) :: fps))) : RS P N (mo :: ml) F H K := fun ops l hl => by
  cases l with
  | nil => simp [compOpers] at hl
  | cons o l =>
    simp only [compOpers] at hl
    split at hl
    · rename_i m ms hm hms
      injection hl with hl
      injection hl with h1 h2
      subst h1 h2
      obtain ⟨v, rd, wr, H1, hs, hr⟩ := h ops o hm
      obtain ⟨fps, F', H', q1, q2⟩ := hr ops l hms
      exact ⟨_, F', H', .cons hm hs q1, q2⟩
    · cases hl

theorem aw_reg {ms : List MOper} (h : RS P N ms F H fun _ F' H' => Zok Z H' → Q .normal F' H') : AW P N Z (.reg ms false) Q F H := fun code hc S ρ a w hcf => by
  cases code <;> simp [compC] at hc
  case region id ops draw =>
    split at hc
    · rename_i ms' hms
      simp at hc
      obtain ⟨rfl, rfl⟩ := hc
      obtain ⟨fps, F', H', hs, hk⟩ := h ops _ hms
      refine wp_region_list (seq_wpList hs hcf.fr hcf.hp fun S' ρ' a' w' hF hd hH hE => ?_)
      have hz : Zok Z H' := fun i hi h0 => by
        have h1 : ρ' i = none := hH.dom i h0
        have h2 := hE.rho i (hcf.z i hi)
        cases hg : get H i with
        | none => exact hcf.z i hi hg
        | some ob =>
          obtain ⟨bk, z, cap, q, _⟩ := hcf.hp.at_.ob i ob trivial hg
          rw [h1, q] at h2; cases h2
      exact ⟨F', H', S', ρ', hk hz, ⟨hF, hd.trans hcf.defers, hH, hz⟩, hE.z hcf.z⟩
    · cases hc
  all_goals (repeat' split at hc) <;> cases hc

theorem Conf.drew {S : Nat → Prop} {ρ : Rho} {a : Act} {w : World} (h : Conf N Z F H S ρ a w) : Conf N Z F H S ρ a w.drew :=
  ⟨⟨h.fr.size, fun t v hv => VR.mono (w := w) (w' := w.drew) (S' := S) (ρ' := ρ) (fun _ h => h) (fun _ _ _ h => h) (fun _ _ h => h) (h.fr.at_ t v hv)⟩, h.defers,
    ⟨h.hp.hS, h.hp.dom, ⟨fun i ob hi hg => by
      obtain ⟨bk, z, cap, q1, q2⟩ := h.hp.at_.ob i ob hi hg
      refine ⟨bk, z, cap, q1, OR.mono (w := w) (w' := w.drew) (S' := S) (ρ' := ρ) (fun _ h => h) (fun _ _ _ h => h) (fun _ _ h => h) (fun b hb hl => ⟨rfl, ?_⟩) q2⟩
      subst hb
      exact (h.hp.cells_ne hg hl q1).1, h.hp.at_.dis⟩⟩, h.z⟩

theorem aw_draw (hm : P.follows .mixedOrders = true) {ms : List MOper} (h : RS P N ms F H fun fps F' H' => okDraw (ms.zip fps) = true ∧ (Zok Z H' → Q .normal F' H')) : AW P N Z (.reg ms true) Q F H := fun code hc S ρ a w hcf => by
  cases code <;> simp [compC] at hc
  case region id ops draw =>
    split at hc
    · rename_i ms' hms
      simp at hc
      obtain ⟨rfl, rfl⟩ := hc
      obtain ⟨fps, F', H', hs, hok, hk⟩ := h ops _ hms
      obtain ⟨e1, e2, Fs, Hs, vs, f0, h0, fn, hn, hr⟩ := hs.data
      have hcd := hcf.drew
      refine wp_region_any hm ?_
      have hsz : ops.size = ops.toList.length := by simp
      rw [hsz]
      refine draw_sound hr hok rfl ops.toList.length _ a w.drew S ρ (get F) (get H) (by simp) ?_ ⟨fun j y _ h => ?_, fun t m _ hw => ?_, fun i m _ hw => ?_⟩ hcd.fr hcd.hp fun S' ρ' a' w' hF hd hH hE => ?_
      · unfold left; exact Nat.le_trans (List.length_filter_le _ _) (by simp)
      · have h' : (Array.replicate ops.toList.length false).getD j false = true := by simpa using h
        rw [getD_replicate_false'] at h'; cases h'
      · have : get (Fs m) t = get (Fs 0) t := by
          have := hr.slot_same (t := t) (a := 0) m (by simpa using ‹m ≤ _›) fun k y _ h2 hy hd => by
            have h' := (hw k y hy hd).2 (by omega)
            rw [getD_replicate_false'] at h'; cases h'
          simpa using this
        rw [this, f0]
      · have : get (Hs m) i = get (Hs 0) i := by
          have := hr.name_same (i := i) (a := 0) m (by simpa using ‹m ≤ _›) fun k y _ h2 hy hd => by
            have h' := (hw k y hy hd).2 (by omega)
            rw [getD_replicate_false'] at h'; cases h'
          simpa using this
        rw [this, h0]
      · rw [fn] at hF
        rw [hn] at hH hE
        have hz : Zok Z H' := fun i hi h0 => by
          have h1 : ρ' i = none := hH.dom i h0
          have h2 := hE.rho i (hcf.z i hi)
          cases hg : get H i with
          | none => exact hcf.z i hi hg
          | some ob =>
            obtain ⟨bk, z, cap, q, _⟩ := hcf.hp.at_.ob i ob trivial hg
            rw [h1, q] at h2; cases h2
        have hE' : ExtZ Z w S ρ (get H) w' S' ρ' (get H') := by
          have e := hE.z hcf.z
          exact ⟨⟨e.keep.os, e.keep.tape, e.keep.output, e.keep.size, e.keep.block⟩, e.sub, e.fresh, e.own, e.rho⟩
        exact ⟨F', H', S', ρ', hk hz, ⟨hF, hd.trans hcf.defers, hH, hz⟩, hE'⟩
    · cases hc
  all_goals (repeat' split at hc) <;> cases hc

end rules
end Go.Proofs.Ytadjdnhnbkcakaa
