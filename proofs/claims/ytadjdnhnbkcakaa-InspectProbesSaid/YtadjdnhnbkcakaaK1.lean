/-
  Parts of the proof: L17 L18 L19 L20 L21 L22 L23 L24 L25.
-/
import Derived.Test.YtadjdnhnbkcakaaK0
import Derived.OpenShut
import Derived.SizedLaws
import Derived.ProofKit
set_option linter.unusedVariables false

/-! Contracts of functions ('FC'), and a call by its callee's contract. -/
namespace Go.Proofs.Ytadjdnhnbkcakaa
open Go.RowKit

mutual
/-- Names only own objects of the list. -/
def scopedV (D : List Nat) : AV → Bool
  | .ptr i _ _ => D.contains i
  | .sl i _ _ => D.contains i
  | .sa i _ _ _ => D.contains i
  | .mp i => D.contains i
  | .fn _ caps => scopedL D caps
  | .agg cs => scopedL D cs
  | .tup cs => scopedL D cs
  | _ => true
def scopedL (D : List Nat) : List AV → Bool
  | [] => true
  | v :: l => scopedV D v && scopedL D l
end

theorem scopedL_mem {D : List Nat} : ∀ {l : List AV} {v : AV}, scopedL D l = true → v ∈ l → scopedV D v = true
  | u :: l, v, h, hv => by
    simp only [scopedL, Bool.and_eq_true] at h
    rcases List.mem_cons.1 hv with rfl | hv
    · exact h.1
    · exact scopedL_mem h.2 hv

theorem VR.scope {w : World} {S : Nat → Prop} {ρ ρ' : Rho} {v : AV} {c : Value} (h : VR w S ρ v c) {D : List Nat} (hs : scopedV D v = true) (hρ : ∀ i, i ∈ D → ρ' i = ρ i) : VR w S ρ' v c := by
  induction h with
  | cl h => exact .cl h
  | ptr i j o b z cap h => exact .ptr i j o b z cap ((hρ i (by simpa [scopedV] using hs)).trans h)
  | sl i j n b z cap cap' h hc hn => exact .sl i j n b z cap cap' ((hρ i (by simpa [scopedV] using hs)).trans h) hc hn
  | sl0 i z h => exact .sl0 i z ((hρ i (by simpa [scopedV] using hs)).trans h)
  | sa i j o n b z cap cap' h hn => exact .sa i j o n b z cap cap' ((hρ i (by simpa [scopedV] using hs)).trans h) hn
  | fn f caps C hn _ ih =>
    simp only [scopedV] at hs
    exact .fn f caps C hn fun j v hj => ih j v hj (scopedL_mem hs (List.mem_of_getElem? hj))
  | agg cs C hn h1 _ ih =>
    simp only [scopedV] at hs
    exact .agg cs C hn h1 fun j v hj => ih j v hj (scopedL_mem hs (List.mem_of_getElem? hj))
  | tup cs C hn _ ih =>
    simp only [scopedV] at hs
    exact .tup cs C hn fun j v hj => ih j v hj (scopedL_mem hs (List.mem_of_getElem? hj))
  | mp i b z cap h => exact .mp i b z cap ((hρ i (by simpa [scopedV] using hs)).trans h)

def scopedE (D : List Nat) : List (List AV) → Bool
  | [] => true
  | e :: r => scopedL D e && scopedE D r

theorem scopedE_mem {D : List Nat} : ∀ {els : List (List AV)} {el : List AV}, scopedE D els = true → el ∈ els → scopedL D el = true
  | e :: r, el, h, he => by
    simp only [scopedE, Bool.and_eq_true] at h
    rcases List.mem_cons.1 he with rfl | he
    · exact h.1
    · exact scopedE_mem h.2 he

def scopedOb (D : List Nat) : Ob → Bool
  | .dead => true
  | .mset _ => true
  | .cells _ _ _ true => true
  | .cells _ _ els false => scopedE D els

theorem OR.scope {w : World} {S : Nat → Prop} {ρ ρ' : Rho} {ob : Ob} {bk : Option Nat} {z cap : Nat} (h : OR w S ρ ob bk z cap) {D : List Nat} (hs : scopedOb D ob = true) (hρ : ∀ i, i ∈ D → ρ' i = ρ i) : OR w S ρ' ob bk z cap := by
  cases ob with
  | dead => trivial
  | mset ks => exact h
  | cells e z' els fl =>
    obtain ⟨hz, h⟩ := h
    refine ⟨hz, ?_⟩
    cases bk with
    | none => exact h
    | some b =>
      obtain ⟨h0, hm, C, hC, h1, h2, h3, h4⟩ := h
      refine ⟨h0, hm, C, hC, h1, h2, h3, fun j el o v he hv => ?_⟩
      obtain ⟨q1, q2⟩ := h4 j el o v he hv
      refine ⟨q1, ?_⟩
      cases fl with
      | true => exact q2
      | false =>
        rw [if_neg (by simp)] at q2 ⊢
        exact q2.scope (scopedL_mem (scopedE_mem hs (List.mem_of_getElem? he)) (List.mem_of_getElem? hv)) hρ

def VRs (w : World) (S : Nat → Prop) (ρ : Rho) (vs : List AV) (C : Array Value) : Prop := C.size = vs.length ∧ ∀ (j : Nat) (v : AV), vs[j]? = some v → VR w S ρ v (C.getD j undef)

/-- The contract of a function, told of abstract values: called with args over the own objects H it hands back r and leaves H'. al: the result may share memory with the arguments. -/
def FC (P : Program) (f : FuncId) (args : List AV) (H : Hp) (r : AV) (H' : Hp) (al : Bool) : Prop :=
  ∀ (w : World) (S : Nat → Prop) (ρ : Rho) (cargs : Array Value), HRF w S ρ (get H) → VRs w S ρ args cargs → Calls P f cargs w fun e w' => ∃ cv S' ρ', e = .returned cv ∧ VR w' S' ρ' r cv ∧ HRF w' S' ρ' (get H') ∧
    Keep w w' (LiveF ρ (get H) All) ∧ (∀ b, S' b → (al = true ∧ S b) ∨ w.heap.size ≤ b) ∧ (∀ b, LiveF ρ' (get H') All b → LiveF ρ (get H) All b ∨ w.heap.size ≤ b) ∧
    (∀ i, get H i ≠ none → ρ' i = ρ i) ∧ (∀ i, get H i ≠ none → get H' i ≠ none)

theorem get_append {α : Type} : ∀ (A B : List (Nat × α)) (i : Nat), get (A ++ B) i = (get A i).or (get B i)
  | [], B, i => by simp [get]
  | (k, v) :: A, B, i => by
    simp only [List.cons_append, get]
    split
    · simp
    · exact get_append A B i

section
variable {P : Program} {N : Nat} {ops : Array Oper} {o : Oper} {mo : MOper} {F : Fr} {H : Hp}

/-- The names that a heap bears. -/
def keysOf {α : Type} (H : List (Nat × α)) : List Nat := H.map (·.1)

theorem mem_keys {α : Type} : ∀ {H : List (Nat × α)} {i : Nat}, i ∈ keysOf H ↔ get H i ≠ none
  | [], i => by simp [keysOf, get]
  | (k, v) :: H, i => by
    have ih := @mem_keys α H i
    simp only [keysOf, List.map_cons, List.mem_cons, get] at ih ⊢
    by_cases h : k = i
    · simp [h]
    · rw [if_neg h, ← ih]
      exact ⟨fun h' => h'.resolve_left (Ne.symm h), .inr⟩

theorem guard_wanted {mo : MOper} (hc : compOper P N ops o = some mo) {F : Fr} {a : Act} {w : World} {S : Nat → Prop} {ρ : Rho} (hF : FRs mo.slots F a w S ρ)
    (hg : mo.guard = none ∨ ∃ g want, mo.guard = some (g, want) ∧ get F g = some (.bool want)) : Region.wanted o (yielded ops a.tmps) = true := by
  obtain ⟨_, _, _, _, e5⟩ := compOper_parts hc
  rcases e5 with ⟨g1, _⟩ | ⟨j, g, want, g1, g2, g3⟩
  · simp [Region.wanted, g1]
  · rcases hg with hg | ⟨g', want', hg, hgv⟩
    · rw [g3] at hg; cases hg
    · rw [g3] at hg
      simp only [Option.some.injEq, Prod.mk.injEq] at hg
      obtain ⟨rfl, rfl⟩ := hg
      have hv := (hF g (by simp [MOper.slots, g3]) _ hgv).bool_inv
      simp [Region.wanted, g1, yielded_bool g2 hv]

theorem run_callFunc {f : FuncId} (hf : entered P f = true) (args : Array Value) (w : World) : (callFunc f args).run P w = .ok (.enter f args) w := by
  unfold entered at hf
  split at hf
  · rename_i fn hfn
    simp only [Bool.and_eq_true, Bool.not_eq_true', beq_eq_false_iff_ne] at hf
    obtain ⟨h1, h2⟩ := hf
    cases hb : fn.body with
    | none => rw [hb] at h1; cases h1
    | some c => simp [callFunc, hfn, h2, hb]
  · cases hf

/-- What the caller owes: the call, entered, with what values. -/
def Enters (P : Program) (o : Oper) (mo : MOper) (F : Fr) (f : FuncId) (vs : List AV) : Prop :=
  ∀ (S : Nat → Prop) (ρ : Rho) (a : Act) (w : World), FRs mo.slots F a w S ρ → ∃ cargs : Array Value, (execOp a.eval o).run P w = .ok (.enter f cargs) w ∧ VRs w S ρ vs cargs

theorem enters_call (hc : compOper P N ops o = some mo) {f : FuncId} {as : List Arg} (hop : mo.op = .call f as) {vs : List AV} (hv : aargs F as = some vs) : Enters P o mo F f vs := by
  obtain ⟨e1, _⟩ := compOper_parts hc
  rw [hop] at e1
  intro S ρ a w hF
  cases ho : o.op with
  | call c =>
    rw [ho] at e1
    simp only [compOp, compCall] at e1
    split at e1
    · rename_i g hcal
      split at e1
      · rename_i hent
        split at e1
        · rename_i as' has
          injection e1 with e1
          injection e1 with e2 e3
          subst e2 e3
          obtain ⟨q1, q2⟩ := cargs_ok hF _ _ _ has (fun t ht => by simp [MOper.slots, hop, MOp.slots, ht]) hv
          have earr : c.args.map a.eval = (c.args.toList.map a.eval).toArray := by rw [← Array.toList_map, Array.toArray_toList]
          refine ⟨c.args.map a.eval, ?_, by rw [earr]; exact ⟨by simpa using q1, q2⟩⟩
          simp [execOp, ho, resolve, hcal, Act.eval, Deferred.ofValue, invoke, run_callFunc hent]
        · cases e1
      · cases e1
    · split at e1 <;> simp at e1
    all_goals (repeat' split at e1) <;> simp at e1
  | _ => rw [ho] at e1; simp only [compOp] at e1; (repeat' split at e1) <;> first | contradiction | (cases e1; done) | (obtain ⟨r, _, e2⟩ := map_some e1; cases e2)

theorem enters_callv (hc : compOper P N ops o = some mo) {g : Arg} {as : List Arg} (hop : mo.op = .callv g as) {vs cs : List AV} {f : FuncId} (hg : aarg F g = some (.fn (.func f) cs)) (hent : entered P f = true) (hv : aargs F as = some vs) :
    Enters P o mo F f (vs ++ cs) := by
  obtain ⟨e1, _⟩ := compOper_parts hc
  rw [hop] at e1
  intro S ρ a w hF
  cases ho : o.op with
  | call c =>
    rw [ho] at e1
    simp only [compOp, compCall] at e1
    split at e1
    · split at e1
      · split at e1 <;> simp at e1
      · cases e1
    · rename_i t hcal
      split at e1
      · rename_i as' has
        injection e1 with e1
        injection e1 with e2 e3
        subst e2 e3
        obtain ⟨q1, q2⟩ := cargs_ok hF _ _ _ has (fun t ht => by simp [MOper.slots, hop, MOp.slots, ht]) hv
        have hfv := carg_ok (x := .tmp t) (r := .t t) rfl hF (fun k hk => List.mem_append_left _ (by rw [hop]; exact List.mem_append_left _ hk)) hg
        obtain ⟨C, e4, e5, e6⟩ := hfv.fn_inv
        have earr : c.args.map a.eval = (c.args.toList.map a.eval).toArray := by rw [← Array.toList_map, Array.toArray_toList]
        refine ⟨c.args.map a.eval ++ C, ?_, by rw [earr]; simp at q1; simp [q1, e5], fun j v hj => ?_⟩
        · simp [execOp, ho, resolve, hcal, e4, Deferred.ofValue, invoke, run_callFunc hent]
        · rw [earr]
          by_cases hjl : j < vs.length
          · rw [List.getElem?_append_left hjl] at hj
            have := q2 j v hj
            have hs : j < (c.args.toList.map a.eval).toArray.size := by simp at q1 ⊢; omega
            rw [Array.getD_eq_getD_getElem?, Array.getElem?_append_left hs, ← Array.getD_eq_getD_getElem?]
            exact this
          · rw [List.getElem?_append_right (by omega)] at hj
            have hs : (c.args.toList.map a.eval).toArray.size ≤ j := by simp at q1 ⊢; omega
            rw [Array.getD_eq_getD_getElem?, Array.getElem?_append_right hs, ← Array.getD_eq_getD_getElem?]
            have hsz : (c.args.toList.map a.eval).toArray.size = vs.length := by simpa using q1
            rw [hsz]
            exact e6 _ v hj
      · cases e1
    all_goals (repeat' split at e1) <;> simp at e1
  | _ => rw [ho] at e1; simp only [compOp] at e1; (repeat' split at e1) <;> first | contradiction | (cases e1; done) | (obtain ⟨r, _, e2⟩ := map_some e1; cases e2)

/-- How the caller's values stand to the contract's: rd: own objects of the caller that the callee only reads. -/
def Hands (H Hs : Hp) (rd : List Nat) (al : Bool) (vs vs' : List AV) : Prop :=
  ∀ (w : World) (S : Nat → Prop) (ρ : Rho) (C : Array Value), HRi (fun i => i ∈ rd ∨ get Hs i ≠ none) w S ρ H → VRs w S ρ vs C →
    VRs w (fun b => S b ∨ (al = false ∧ LiveB ρ H (fun i => i ∈ rd) b)) (fun i => if get Hs i ≠ none then ρ i else none) vs' C

/-- A call by contract. -/
theorem step_call (hc : compOper P N ops o = some mo) (hg : mo.guard = none ∨ ∃ g want, mo.guard = some (g, want) ∧ get F g = some (.bool want)) {f : FuncId} {vs vs' : List AV} (he : Enters P o mo F f vs)
    {Hs H' : Hp} {r : AV} {al : Bool} {rd : List Nat} (hfc : FC P f vs' Hs r H' al) (hh : Hands H Hs rd al vs vs') (hal : al = false → Hs = []) (hsub : ∀ i ob, get Hs i = some ob → get H i = some ob)
    (hsc : ∀ i ob, get Hs i = some ob → scopedOb (keysOf Hs) ob = true) (hrd : ∀ i, i ∈ rd → get Hs i = none) (hnew : ∀ i, get H' i ≠ none → get Hs i = none → get H i = none) (hdom : ∀ i, get Hs i ≠ none → get H' i ≠ none) :
    StepM P N ops o mo F H rd (keysOf H') r (H' ++ H) := by
  have hwr : ∀ i, i ∈ keysOf H' ↔ get H' i ≠ none := fun i => mem_keys
  refine ⟨fun i hi => ?_, fun i hi => ?_, fun S ρ a w Q K hN hF hS hH hnewρ hK => ?_⟩
  · rw [hwr] at hi
    have : get H' i = none := by cases h : get H' i <;> simp_all
    rw [get_append, this]; rfl
  · rw [hwr] at hi
    rw [get_append]
    cases h : get H' i with
    | none => exact absurd h hi
    | some ob => rfl
  · have hw := guard_wanted hc hF hg
    unfold wpG
    rw [if_pos hw]
    refine .inl ?_
    obtain ⟨cargs, hrun, hvr⟩ := he S ρ a w hF
    have hI : ∀ i, (i ∈ rd ∨ get Hs i ≠ none) → (i ∈ rd ∨ i ∈ keysOf H') := fun i hi => hi.imp id fun h => (hwr i).2 (hdom i h)
    have hHI : HRi (fun i => i ∈ rd ∨ get Hs i ≠ none) w S ρ H := ⟨fun i ob hi => hH.ob i ob (hI i hi), fun i j oi oj b z z' c c' hi hj => hH.dis i j oi oj b z z' c c' (hI i hi) (hI j hj)⟩
    have hargs := hh w S ρ cargs hHI hvr
    -- facts on blocks
    have liveRd : ∀ i ob b z cap, (i ∈ rd ∨ i ∈ keysOf H') → get H i = some ob → ob.live = true → ρ i = some (some b, z, cap) → ¬ S b ∧ b < w.heap.size := fun i ob b z cap hi hgi hl hr => by
      obtain ⟨bk, z1, c1, q1, q2⟩ := hH.ob i ob hi hgi
      rw [hr] at q1
      injection q1 with q1
      obtain ⟨rfl, rfl, rfl⟩ : some b = bk ∧ z = z1 ∧ cap = c1 := by simpa using q1
      cases ob with
      | dead => cases hl
      | cells e1 z1 els1 fl1 =>
        obtain ⟨_, q3, _, C, q4, _⟩ := q2
        exact ⟨q3, (Array.getElem?_eq_some_iff.1 q4).1⟩
      | mset ks =>
        obtain ⟨b1, es, clk, e1, q3, q4, _⟩ := q2
        injection e1 with e1; subst e1
        exact ⟨q3, (Array.getElem?_eq_some_iff.1 q4).1⟩
    let Sc : Nat → Prop := fun b => S b ∨ (al = false ∧ LiveB ρ H (fun i => i ∈ rd) b)
    let ρs : Rho := fun i => if get Hs i ≠ none then ρ i else none
    have hρs : ∀ i, get Hs i ≠ none → ρs i = ρ i := fun i hi => if_pos hi
    have hHs : HRF w Sc ρs (get Hs) := by
      refine ⟨fun b hb => ?_, fun i hi => ?_, ⟨fun i ob _ hgi => ?_, fun i j oi oj b z z' c c' _ _ hne hgi hgj hli hlj hri hrj => ?_⟩⟩
      · rcases hb with hb | ⟨_, i, ob, z, cap, hi, hgi, hl, hr⟩
        · exact hS b hb
        · exact (liveRd i ob b z cap (.inl hi) hgi hl hr).2
      · simp [ρs, hi]
      · have hne : get Hs i ≠ none := by rw [hgi]; simp
        obtain ⟨bk, z, cap, q1, q2⟩ := hH.ob i ob (hI i (.inr hne)) (hsub i ob hgi)
        refine ⟨bk, z, cap, by rw [hρs i hne]; exact q1, ?_⟩
        have q3 := q2.scope (ρ' := ρs) (hsc i ob hgi) (fun k hk => hρs k (mem_keys.1 hk))
        refine OR.mono (w' := w) (S' := Sc) (ρ' := ρs) (fun b hb => .inl hb) (fun _ _ _ h => h) (fun _ _ h => h) (fun b hb hl => ⟨rfl, fun hs => ?_⟩) q3
        subst hb
        rcases hs with hs | ⟨ha, _⟩
        · exact (liveRd i ob b z cap (hI i (.inr hne)) (hsub i ob hgi) hl q1).1 hs
        · rw [hal ha] at hgi; simp [get] at hgi
      · have h1 : get Hs i ≠ none := by rw [hgi]; simp
        have h2 : get Hs j ≠ none := by rw [hgj]; simp
        rw [hρs i h1] at hri
        rw [hρs j h2] at hrj
        exact hH.dis i j oi oj b z z' c c' (hI i (.inr h1)) (hI j (.inr h2)) hne (hsub i oi hgi) (hsub j oj hgj) hli hlj hri hrj
    unfold Oper.wp
    rw [hrun]
    show Calls P f cargs w _
    refine (hfc w Sc ρs cargs hHs hargs).mono fun e w' ⟨cv, S', ρ', he, hv, hh', hk, hf, hown, hrho, _⟩ => ?_
    subst he
    show K (a.put o.dst cv) w'
    let Sn : Nat → Prop := fun b => S b ∨ S' b
    let ρn : Rho := fun i => if i ∈ keysOf H' then ρ' i else ρ i
    have hρn : ∀ i x, ρ' i = some x → ρn i = some x := fun i x hx => by
      have : i ∈ keysOf H' := (hwr i).2 fun h => by rw [hh'.dom i h] at hx; cases hx
      simp only [ρn]; rw [if_pos this]; exact hx
    have liveHs : ∀ b, LiveF ρs (get Hs) All b → LiveB ρ H (fun i => i ∈ rd ∨ i ∈ keysOf H') b := fun b ⟨i, ob, z, cap, _, hgi, hl, hr⟩ => by
      have hne : get Hs i ≠ none := by rw [hgi]; simp
      rw [hρs i hne] at hr
      exact ⟨i, ob, z, cap, hI i (.inr hne), hsub i ob hgi, hl, hr⟩
    have Sfresh : ∀ b, S' b → S b ∨ w.heap.size ≤ b := fun b hb => by
      rcases hf b hb with ⟨ha, hs⟩ | h
      · rcases hs with hs | ⟨ha', _⟩
        · exact .inl hs
        · rw [ha] at ha'; cases ha'
      · exact .inr h
    have cellS : ∀ (a : Addr) (c : Value), S a.block → w.cell? a = some c → w'.cell? a = some c := fun a c hs hc => by
      refine hk.cell (fun hl => ?_) hc
      obtain ⟨i, ob, z, cap, hi, hgi, hl', hr⟩ := liveHs a.block hl
      exact (liveRd i ob _ z cap hi hgi hl' hr).1 hs
    have new_of : ∀ i, i ∈ keysOf H' → get H i ≠ none → get Hs i ≠ none := fun i hi hne h => hne (hnew i ((hwr i).1 hi) h)
    have ρn_old : ∀ i, ¬ (i ∈ keysOf H' ∧ get H i = none) → ρn i = ρ i := fun i hi => by
      by_cases hw : i ∈ keysOf H'
      · have h1 : get Hs i ≠ none := new_of i hw fun h => hi ⟨hw, h⟩
        simp only [ρn]; rw [if_pos hw, hrho i h1, hρs i h1]
      · simp only [ρn]; rw [if_neg hw]
    have hρ_n : ∀ i x, ρ i = some x → ρn i = some x := fun i x hx => by
      rw [ρn_old i fun ⟨h1, h2⟩ => by rw [hnewρ i h1 h2] at hx; cases hx]; exact hx
    -- an object that the callee was handed or has made
    have inH' : ∀ i ob, i ∈ keysOf H' → get (H' ++ H) i = some ob → get H' i = some ob := fun i ob hi hgi => by
      rw [get_append] at hgi
      cases h : get H' i with
      | none => exact absurd h ((hwr i).1 hi)
      | some x => rw [h] at hgi; simpa using hgi
    have notH' : ∀ i ob, i ∉ keysOf H' → get (H' ++ H) i = some ob → get H i = some ob := fun i ob hi hgi => by
      have : get H' i = none := by cases h : get H' i with
        | none => rfl
        | some x => exact absurd ((hwr i).2 (by rw [h]; simp)) hi
      rw [get_append, this] at hgi; simpa using hgi
    have far : ∀ i ob b z cap, i ∈ rd → i ∉ keysOf H' → get H i = some ob → ob.live = true → ρ i = some (some b, z, cap) → ¬ LiveF ρs (get Hs) All b := fun i ob b z cap hi hni hgi hl hr ⟨k, ob', z', cap', _, hgk, hl', hrk⟩ => by
      have hne : get Hs k ≠ none := by rw [hgk]; simp
      rw [hρs k hne] at hrk
      exact hH.dis i k ob ob' b z z' cap cap' (.inl hi) (hI k (.inr hne)) (fun e => hne (by rw [← e]; exact hrd i hi)) hgi (hsub k ob' hgk) hl hl' hr hrk
    refine hK cv w' Sn ρn (hv.mono (fun b hb => .inr hb) (fun _ _ _ h => h) hρn) ⟨fun i ob hi hgi => ?_, fun i j oi oj b z z' c c' hi hj hne hgi hgj hli hlj hri hrj => ?_⟩
      ⟨hk.mono liveHs, fun b hb => .inl hb, fun b hb => hb.elim .inl (Sfresh b), fun b hb => hb.elim (fun h => Nat.lt_of_lt_of_le (hS b h) hk.size) (hh'.hS b), fun b hb => ?_, ρn_old⟩
    · by_cases hw' : i ∈ keysOf H'
      · have h1 := inH' i ob hw' hgi
        obtain ⟨bk, z, cap, q1, q2⟩ := hh'.at_.ob i ob trivial h1
        refine ⟨bk, z, cap, hρn i _ q1, q2.mono (fun b hb => .inr hb) (fun _ _ _ h => h) hρn fun b hb hl => ⟨rfl, fun hs => ?_⟩⟩
        subst hb
        rcases hs with hs | hs
        · rcases hown b ⟨i, ob, z, cap, trivial, h1, hl, q1⟩ with h | h
          · obtain ⟨k, ob', z', cap', hk1, hgk, hlk, hrk⟩ := liveHs b h
            exact (liveRd k ob' b z' cap' hk1 hgk hlk hrk).1 hs
          · have := hS b hs; omega
        · exact (hh'.cells_ne h1 hl q1).1 hs
      · have hi' : i ∈ rd := hi.resolve_right hw'
        have h1 := notH' i ob hw' hgi
        obtain ⟨bk, z, cap, q1, q2⟩ := hH.ob i ob hi h1
        refine ⟨bk, z, cap, hρ_n i _ q1, q2.mono (fun b hb => .inl hb) cellS hρ_n fun b hb hl => ?_⟩
        subst hb
        obtain ⟨g1, g2⟩ := liveRd i ob b z cap hi h1 hl q1
        exact ⟨hk.block b g2 (far i ob b z cap hi' hw' h1 hl q1), fun hs => hs.elim g1 fun hs => (Sfresh b hs).elim g1 (by omega)⟩
    · -- distinct
      have mixed : ∀ i j oi oj z z' c c', i ∈ keysOf H' → j ∉ keysOf H' → j ∈ rd → get H' i = some oi → get H j = some oj → oi.live = true → oj.live = true → ρ' i = some (some b, z, c) → ρ j = some (some b, z', c') → False := by
        intro i j oi oj z z' c c' hi hj hjr hgi hgj hli hlj hri hrj
        rcases hown b ⟨i, oi, z, c, trivial, hgi, hli, hri⟩ with h | h
        · exact far j oj b z' c' hjr hj hgj hlj hrj h
        · have := (liveRd j oj b z' c' (.inl hjr) hgj hlj hrj).2; omega
      by_cases hwi : i ∈ keysOf H'
      · have hgi' := inH' i oi hwi hgi
        simp only [ρn] at hri
        rw [if_pos hwi] at hri
        by_cases hwj : j ∈ keysOf H'
        · simp only [ρn] at hrj
          rw [if_pos hwj] at hrj
          exact hh'.at_.dis i j oi oj b z z' c c' trivial trivial hne hgi' (inH' j oj hwj hgj) hli hlj hri hrj
        · simp only [ρn] at hrj
          rw [if_neg hwj] at hrj
          exact mixed i j oi oj z z' c c' hwi hwj (hj.resolve_right hwj) hgi' (notH' j oj hwj hgj) hli hlj hri hrj
      · have hgi' := notH' i oi hwi hgi
        simp only [ρn] at hri
        rw [if_neg hwi] at hri
        by_cases hwj : j ∈ keysOf H'
        · simp only [ρn] at hrj
          rw [if_pos hwj] at hrj
          exact mixed j i oj oi z' z c' c hwj hwi (hi.resolve_right hwi) (inH' j oj hwj hgj) hgi' hlj hli hrj hri
        · simp only [ρn] at hrj
          rw [if_neg hwj] at hrj
          exact hH.dis i j oi oj b z z' c c' hi hj hne hgi' (notH' j oj hwj hgj) hli hlj hri hrj
    · obtain ⟨i, ob, z, cap, hi, hgi, hl, hr⟩ := hb
      by_cases hwi : i ∈ keysOf H'
      · simp only [ρn] at hr
        rw [if_pos hwi] at hr
        rcases hown b ⟨i, ob, z, cap, trivial, inH' i ob hwi hgi, hl, hr⟩ with h | h
        · exact .inl (liveHs b h)
        · exact .inr h
      · simp only [ρn] at hr
        rw [if_neg hwi] at hr
        exact .inl ⟨i, ob, z, cap, hi, notH' i ob hwi hgi, hl, hr⟩

end
end Go.Proofs.Ytadjdnhnbkcakaa

/-! Values on their way: into a call, out of a function, over a weakening. Entering a function. -/
namespace Go.Proofs.Ytadjdnhnbkcakaa
open Go.RowKit

mutual
/-- Holds no read-only part. -/
def noRO : AV → Bool
  | .rp _ => false
  | .rs _ _ => false
  | .fn _ caps => noROL caps
  | .agg cs => noROL cs
  | .tup cs => noROL cs
  | _ => true
def noROL : List AV → Bool
  | [] => true
  | v :: l => noRO v && noROL l
end

theorem noROL_mem : ∀ {l : List AV} {v : AV}, noROL l = true → v ∈ l → noRO v = true
  | u :: l, v, h, hv => by
    simp only [noROL, Bool.and_eq_true] at h
    rcases List.mem_cons.1 hv with rfl | hv
    · exact h.1
    · exact noROL_mem h.2 hv

theorem CR.noRO {w w' : World} {S S' : Nat → Prop} {v : AV} {c : Value} (h : CR w S v c) (hn : noRO v = true) : CR w' S' v c := by
  induction h with
  | any c => exact .any c
  | und => exact .und
  | bool b => exact .bool b
  | int k n => exact .int k n
  | str s => exact .str s
  | nilp => exact .nilp
  | rp => simp [Ytadjdnhnbkcakaa.noRO] at hn
  | nils => exact .nils
  | rs0 => simp [Ytadjdnhnbkcakaa.noRO] at hn
  | rs => simp [Ytadjdnhnbkcakaa.noRO] at hn
  | fn f caps C hl _ ih =>
    simp only [Ytadjdnhnbkcakaa.noRO] at hn
    exact .fn f caps C hl fun j v hj => ih j v hj (noROL_mem hn (List.mem_of_getElem? hj))
  | nilf => exact .nilf
  | agg cs C hl h1 _ ih =>
    simp only [Ytadjdnhnbkcakaa.noRO] at hn
    exact .agg cs C hl h1 fun j v hj => ih j v hj (noROL_mem hn (List.mem_of_getElem? hj))
  | tup cs C hl _ ih =>
    simp only [Ytadjdnhnbkcakaa.noRO] at hn
    exact .tup cs C hl fun j v hj => ih j v hj (noROL_mem hn (List.mem_of_getElem? hj))
  | nilm => exact .nilm
  | anyb b => exact .anyb b

theorem VR.noRO {w w' : World} {S S' : Nat → Prop} {ρ : Rho} {v : AV} {c : Value} (h : VR w S ρ v c) (hn : noRO v = true) : VR w' S' ρ v c := by
  induction h with
  | cl h => exact .cl (h.noRO hn)
  | ptr i j o b z cap h => exact .ptr i j o b z cap h
  | sl i j n b z cap cap' h hc hl => exact .sl i j n b z cap cap' h hc hl
  | sl0 i z h => exact .sl0 i z h
  | sa i j o n b z cap cap' h hl => exact .sa i j o n b z cap cap' h hl
  | fn f caps C hl _ ih =>
    simp only [Ytadjdnhnbkcakaa.noRO] at hn
    exact .fn f caps C hl fun j v hj => ih j v hj (noROL_mem hn (List.mem_of_getElem? hj))
  | agg cs C hl h1 _ ih =>
    simp only [Ytadjdnhnbkcakaa.noRO] at hn
    exact .agg cs C hl h1 fun j v hj => ih j v hj (noROL_mem hn (List.mem_of_getElem? hj))
  | tup cs C hl _ ih =>
    simp only [Ytadjdnhnbkcakaa.noRO] at hn
    exact .tup cs C hl fun j v hj => ih j v hj (noROL_mem hn (List.mem_of_getElem? hj))
  | mp i b z cap h => exact .mp i b z cap h

def zOf : Ob → Nat
  | .dead => 0
  | .cells _ z _ _ => z
  | .mset _ => 0

/-- The names behind a weakening from H to H0: what is kept stands for what it stood for; a new name is an empty row. -/
def rhoW (H H0 : Hp) (ρ : Rho) : Rho := fun i => match get H0 i with
  | none => none
  | some ob => match get H i with
    | some _ => ρ i
    | none => some (none, zOf ob, 0)

/-- The blocks that stay, behind it: those that were given up with it. -/
def Sw (H H0 : Hp) (al : Bool) (S : Nat → Prop) (ρ : Rho) : Nat → Prop := fun b => (al = true ∧ S b) ∨ LiveF ρ (get H) (fun i => get H0 i = none) b

/-- A value over a weakening. -/
def RC (H H0 : Hp) (al : Bool) (v r : AV) : Prop := ∀ (S : Nat → Prop) (ρ : Rho) (w : World) (c : Value), HRF w S ρ (get H) → VR w S ρ v c → VR w (Sw H H0 al S ρ) (rhoW H H0 ρ) r c

theorem rhoW_kept {H H0 : Hp} {ρ : Rho} {i : Nat} (h0 : get H0 i ≠ none) (h : get H i ≠ none) : rhoW H H0 ρ i = ρ i := by
  unfold rhoW
  cases h1 : get H0 i with
  | none => exact absurd h1 h0
  | some ob => cases h2 : get H i with
    | none => exact absurd h2 h
    | some _ => rfl

/-- An own object's name, where a value speaks of it: it is in the heap. -/
theorem HRF.named {w : World} {S : Nat → Prop} {ρ : Rho} {H : Hp} (hh : HRF w S ρ (get H)) {i : Nat} {x : Option Nat × Nat × Nat} (h : ρ i = some x) : get H i ≠ none := fun h0 => by rw [hh.dom i h0] at h; cases h

theorem VR.rhoW {w : World} {S : Nat → Prop} {ρ : Rho} {v : AV} {c : Value} (h : VR w S ρ v c) {H H0 : Hp} (hh : HRF w S ρ (get H)) (hs : scopedV (keysOf H0) v = true) : VR w S (rhoW H H0 ρ) v c := by
  have key : ∀ i x, (keysOf H0).contains i = true → ρ i = some x → Ytadjdnhnbkcakaa.rhoW H H0 ρ i = some x := fun i x hi hx => by
    rw [rhoW_kept (mem_keys.1 (by simpa using hi)) (hh.named hx)]; exact hx
  induction h with
  | cl h => exact .cl h
  | ptr i j o b z cap h => exact .ptr i j o b z cap (key i _ hs h)
  | sl i j n b z cap cap' h hc hn => exact .sl i j n b z cap cap' (key i _ hs h) hc hn
  | sl0 i z h => exact .sl0 i z (key i _ hs h)
  | sa i j o n b z cap cap' h hn => exact .sa i j o n b z cap cap' (key i _ hs h) hn
  | fn f caps C hn _ ih =>
    simp only [scopedV] at hs
    exact .fn f caps C hn fun j v hj => ih j v hj (scopedL_mem hs (List.mem_of_getElem? hj))
  | agg cs C hn h1 _ ih =>
    simp only [scopedV] at hs
    exact .agg cs C hn h1 fun j v hj => ih j v hj (scopedL_mem hs (List.mem_of_getElem? hj))
  | tup cs C hn _ ih =>
    simp only [scopedV] at hs
    exact .tup cs C hn fun j v hj => ih j v hj (scopedL_mem hs (List.mem_of_getElem? hj))
  | mp i b z cap h => exact .mp i b z cap (key i _ hs h)

theorem rc_any {H H0 : Hp} {al : Bool} {v : AV} : RC H H0 al v .any := fun S ρ w c _ _ => .cl (.any c)

theorem rc_same {H H0 : Hp} {al : Bool} {v : AV} (hs : scopedV (keysOf H0) v = true) (hn : al = true ∨ noRO v = true) : RC H H0 al v v := fun S ρ w c hh h => by
  have h1 := h.rhoW hh hs
  rcases hn with rfl | hn
  · exact h1.mono (fun b hb => .inl ⟨rfl, hb⟩) (fun _ _ _ h => h) (fun _ _ h => h)
  · exact h1.noRO hn

theorem rc_nils {H H0 : Hp} {al : Bool} {z : Nat} : RC H H0 al .nils (.rs z []) := fun S ρ w c _ h => by
  rw [h.nils_inv]; exact .cl (.rs0 z none 0)

theorem rc_virt {H H0 : Hp} {al : Bool} {i e z : Nat} {fl : Bool} (h : get H i = none) (h0 : get H0 i = some (.cells e z [] fl)) : RC H H0 al .nils (.sl i 0 0) := fun S ρ w c _ hv => by
  rw [hv.nils_inv]
  exact .sl0 i z (by simp [rhoW, h, h0, zOf])

theorem rc_freeze {H H0 : Hp} {al : Bool} {i e z j n : Nat} {els : List (List AV)} (h : get H i = some (.cells e z els true)) (h0 : get H0 i = none) (hb : j + n ≤ els.length)
    (hn : al = true ∨ ∀ el ∈ els, ∀ v ∈ el, noRO v = true) : RC H H0 al (.sl i j n) (.rs z ((els.drop j).take n)) := fun S ρ w c hh hv => by
  have hlen : ((els.drop j).take n).length = n := by simp; omega
  rcases hv.sl_inv with ⟨b, z0, cap, cap', hρ, hjc, hnc, rfl⟩ | ⟨z0, hρ, rfl, rfl, rfl⟩
  · obtain ⟨bk, z1, c1, q1, hz, q2⟩ := hh.at_.ob i _ trivial h
    rw [hρ] at q1
    injection q1 with q1
    obtain ⟨rfl, rfl, rfl⟩ : some b = bk ∧ z0 = z1 ∧ cap = c1 := by simpa using q1
    subst hz
    obtain ⟨hs, hm, C, hC, e1, e2, e3, e4⟩ := q2
    have hSb : Sw H H0 al S ρ b := .inr ⟨i, _, z, cap, h0, h, rfl, hρ⟩
    have hcell : ∀ (q : Nat) (el : List AV) (k : Nat) (u : AV), ((els.drop j).take n)[q]? = some el → el[k]? = some u → els[j + q]? = some el ∧ q < n := fun q el k u hq _ => by
      rw [List.getElem?_take] at hq
      split at hq
      · rw [List.getElem?_drop] at hq; exact ⟨hq, by assumption⟩
      · cases hq
    have hq := CR.rs (w := w) (S := Sw H H0 al S ρ) z ((els.drop j).take n) b (j * z) cap' (fun q k => C.getD ((j + q) * z + k) undef) hSb (by omega)
      (fun q el k u hq hk => by
        obtain ⟨h1, h2⟩ := hcell q el k u hq hk
        obtain ⟨g1, g2⟩ := e4 (j + q) el k u h1 hk
        have hkz : k < z := Nat.lt_of_lt_of_le (List.getElem?_eq_some_iff.1 hk).1 (e3 _ el h1)
        have hlt : (j + q) * z + k < C.size := by
          rw [e1]
          calc (j + q) * z + k < (j + q) * z + z := by omega
            _ = (j + q + 1) * z := by rw [Nat.add_mul (j + q), Nat.one_mul]
            _ ≤ cap * z := Nat.mul_le_mul_right _ (by omega)
        refine ⟨?_, g1⟩
        rw [← Nat.add_mul, cell_of_row w b _ C e (0, 0) hC]
        exact getD_some hlt)
      (fun q el k u hq hk => by
        obtain ⟨h1, h2⟩ := hcell q el k u hq hk
        obtain ⟨_, g2⟩ := e4 (j + q) el k u h1 hk
        rw [if_pos rfl] at g2
        rcases hn with rfl | hn
        · exact g2.mono (fun b hb => .inl ⟨rfl, hb⟩) (fun _ _ _ h => h)
        · exact g2.noRO (hn el (List.mem_of_getElem? h1) u (List.mem_of_getElem? hk)))
    rw [hlen] at hq
    exact .cl hq
  · simp; exact .cl (.rs0 z none 0)

inductive RCs (H H0 : Hp) (al : Bool) : List AV → List AV → Prop where
  | nil : RCs H H0 al [] []
  | cons {v r : AV} {vs rs : List AV} (h : RC H H0 al v r) (hs : RCs H H0 al vs rs) : RCs H H0 al (v :: vs) (r :: rs)

theorem RCs.at_ {H H0 : Hp} {al : Bool} {vs rs : List AV} (h : RCs H H0 al vs rs) : vs.length = rs.length ∧ ∀ (j : Nat) (r : AV), rs[j]? = some r → ∃ v, vs[j]? = some v ∧ RC H H0 al v r := by
  induction h with
  | nil => exact ⟨rfl, fun j r h => by simp at h⟩
  | cons h _ ih =>
    refine ⟨by simp [ih.1], fun j r hj => ?_⟩
    cases j with
    | zero => simp at hj; subst hj; exact ⟨_, rfl, h⟩
    | succ j => simpa using ih.2 j r (by simpa using hj)

theorem rc_tup {H H0 : Hp} {al : Bool} {vs rs : List AV} (h : RCs H H0 al vs rs) : RC H H0 al (.tup vs) (.tup rs) := fun S ρ w c hh hv => by
  obtain ⟨C, rfl, hn, h2⟩ := hv.tup_inv
  obtain ⟨e1, e2⟩ := h.at_
  refine .tup rs C (by rw [hn, e1]) fun j r hj => ?_
  obtain ⟨v, g1, g2⟩ := e2 j r hj
  exact g2 S ρ w _ hh (h2 j v g1)

theorem rc_agg {H H0 : Hp} {al : Bool} {vs rs : List AV} (h : RCs H H0 al vs rs) : RC H H0 al (.agg vs) (.agg rs) := fun S ρ w c hh hv => by
  obtain ⟨C, rfl, hn, h1, h2⟩ := hv.agg_inv
  obtain ⟨e1, e2⟩ := h.at_
  refine .agg rs C (by rw [hn, e1]) (fun j r hj => ?_) fun j r hj => ?_
  · obtain ⟨v, g1, _⟩ := e2 j r hj
    exact h1 j v g1
  · obtain ⟨v, g1, g2⟩ := e2 j r hj
    exact g2 S ρ w _ hh (h2 j v g1)

/-- The objects that are kept, and the new empty rows. -/
def KeptH (H H0 : Hp) (al : Bool) : Prop := ∀ i ob, get H0 i = some ob →
  (get H i = some ob ∧ scopedOb (keysOf H0) ob = true ∧ (al = true ∨ ∀ e z els fl, ob = .cells e z els fl → ∀ el ∈ els, ∀ v ∈ el, noRO v = true)) ∨
  (get H i = none ∧ ∃ e z fl, ob = .cells e z [] fl)

theorem keptH_nil {H : Hp} {al : Bool} : KeptH H [] al := fun i ob h => by simp [get] at h

theorem hrf_weak {H H0 : Hp} {al : Bool} (hk : KeptH H H0 al) {w : World} {S : Nat → Prop} {ρ : Rho} (hh : HRF w S ρ (get H)) : HRF w (Sw H H0 al S ρ) (rhoW H H0 ρ) (get H0) ∧
    (∀ b, LiveF (rhoW H H0 ρ) (get H0) All b → LiveF ρ (get H) (fun i => get H0 i ≠ none) b) := by
  have live : ∀ i ob b z cap, get H0 i = some ob → ob.live = true → rhoW H H0 ρ i = some (some b, z, cap) → get H i = some ob ∧ ρ i = some (some b, z, cap) := fun i ob b z cap hi hl hr => by
    rcases hk i ob hi with ⟨h1, _, _⟩ | ⟨h1, e, z', fl, rfl⟩
    · refine ⟨h1, ?_⟩
      rw [rhoW_kept (by rw [hi]; simp) (by rw [h1]; simp)] at hr; exact hr
    · simp [rhoW, hi, h1] at hr
  refine ⟨⟨fun b hb => ?_, fun i hi => by simp [rhoW, hi], ⟨fun i ob _ hi => ?_, fun i j oi oj b z z' c c' _ _ hne hi hj hli hlj hri hrj => ?_⟩⟩, fun b ⟨i, ob, z, cap, _, hi, hl, hr⟩ => ?_⟩
  · rcases hb with ⟨_, hb⟩ | ⟨i, ob, z, cap, _, hg, hl, hr⟩
    · exact hh.hS b hb
    · exact (hh.cells_ne hg hl hr).2
  · rcases hk i ob hi with ⟨h1, h2, h3⟩ | ⟨h1, e, z', fl, rfl⟩
    · obtain ⟨bk, z, cap, q1, q2⟩ := hh.at_.ob i ob trivial h1
      refine ⟨bk, z, cap, by rw [rhoW_kept (by rw [hi]; simp) (by rw [h1]; simp)]; exact q1, ?_⟩
      cases ob with
      | dead => trivial
      | mset ks =>
        obtain ⟨b, es, clk, e1, g0, g1, g2⟩ := q2
        subst e1
        refine ⟨b, es, clk, rfl, fun hs => ?_, g1, g2⟩
        rcases hs with ⟨_, hs⟩ | ⟨k, ob', z2, c2, hk0, hgk, hlk, hrk⟩
        · exact g0 hs
        · exact hh.at_.dis i k _ ob' b z z2 cap c2 trivial trivial (fun e => by rw [e, hk0] at hi; cases hi) h1 hgk rfl hlk q1 hrk
      | cells e z' els fl =>
        obtain ⟨hz, q2⟩ := q2
        refine ⟨hz, ?_⟩
        cases bk with
        | none => exact q2
        | some b =>
          obtain ⟨g0, hm, C, hC, g1, g2, g3, g4⟩ := q2
          refine ⟨fun hs => ?_, hm, C, hC, g1, g2, g3, fun j el o v hj ho => ?_⟩
          · rcases hs with ⟨_, hs⟩ | ⟨k, ob', z2, c2, hk0, hgk, hlk, hrk⟩
            · exact g0 hs
            · exact hh.at_.dis i k _ ob' b z z2 cap c2 trivial trivial (fun e => by rw [e, hk0] at hi; cases hi) h1 hgk rfl hlk q1 hrk
          · obtain ⟨f1, f2⟩ := g4 j el o v hj ho
            refine ⟨f1, ?_⟩
            have hno : al = true ∨ noRO v = true := h3.imp id fun h => h e z' els fl rfl el (List.mem_of_getElem? hj) v (List.mem_of_getElem? ho)
            by_cases hf : fl = true
            · rw [if_pos hf] at f2 ⊢
              rcases hno with rfl | hno
              · exact f2.mono (fun b hb => .inl ⟨rfl, hb⟩) (fun _ _ _ h => h)
              · exact f2.noRO hno
            · have hf' : fl = false := by simpa using hf
              subst hf'
              rw [if_neg (by simp)] at f2 ⊢
              exact rc_same (scopedL_mem (scopedE_mem h2 (List.mem_of_getElem? hj)) (List.mem_of_getElem? ho)) hno S ρ w _ hh f2
    · exact ⟨none, z', 0, by simp [rhoW, hi, h1, zOf], rfl, rfl, rfl⟩
  · obtain ⟨g1, g2⟩ := live i oi b z c hi hli hri
    obtain ⟨g3, g4⟩ := live j oj b z' c' hj hlj hrj
    exact hh.at_.dis i j oi oj b z z' c c' trivial trivial hne g1 g3 hli hlj g2 g4
  · obtain ⟨g1, g2⟩ := live i ob b z cap hi hl hr
    exact ⟨i, ob, z, cap, (by show get H0 i ≠ none; rw [hi]; simp), g1, hl, g2⟩

/-- The slots that are kept. -/
inductive KeptF (H H0 : Hp) (F : Fr) : Fr → Prop where
  | nil : KeptF H H0 F []
  | cons {t : Nat} {v v0 : AV} {F0 : Fr} (h : get F t = some v) (hv : RC H H0 true v v0) (hs : KeptF H H0 F F0) : KeptF H H0 F ((t, v0) :: F0)

theorem KeptF.at_ {H H0 : Hp} {F F0 : Fr} (h : KeptF H H0 F F0) : ∀ t v0, get F0 t = some v0 → ∃ v, get F t = some v ∧ RC H H0 true v v0 := by
  induction h with
  | nil => intro t v0 h; simp [get] at h
  | cons h hv _ ih =>
    rename_i t v v0 F0 _
    intro t' u hu
    simp only [get] at hu
    split at hu
    · rename_i e; subst e; injection hu with hu; subst hu; exact ⟨v, h, hv⟩
    · exact ih t' u hu

theorem weak_of {N : Nat} {Z : List Nat} {F F0 : Fr} {H H0 : Hp} (hF : KeptF H H0 F F0) (hH : KeptH H H0 true) (hZ : ∀ i, i ∈ Z → i ∈ keysOf H0) : Weak N Z F H F0 H0 := fun S ρ a w hc => by
  obtain ⟨g1, g2⟩ := hrf_weak hH hc.hp
  refine ⟨Sw H H0 true S ρ, rhoW H H0 ρ, ⟨⟨hc.fr.size, fun t v hv => ?_⟩, hc.defers, g1, fun i hi => mem_keys.1 (hZ i hi)⟩, ⟨Keep.refl _ _, fun b hb => .inl ⟨rfl, hb⟩, fun b hb => ?_, fun b hb => ?_, fun i hi => ?_⟩⟩
  · obtain ⟨u, h1, h2⟩ := hF.at_ t v hv
    exact h2 S ρ w _ hc.hp (hc.fr.at_ t u h1)
  · rcases hb with ⟨_, hb⟩ | ⟨i, ob, z, cap, _, hg, hl, hr⟩
    · exact .inl hb
    · exact .inr (.inl ⟨i, ob, z, cap, trivial, hg, hl, hr⟩)
  · obtain ⟨i, ob, z, cap, _, hg, hl, hr⟩ := g2 b hb
    exact .inl ⟨i, ob, z, cap, trivial, hg, hl, hr⟩
  · exact rhoW_kept (mem_keys.1 (hZ i hi)) (hc.z i hi)

/-- Results. -/
def resV (P : Program) (F : Fr) (H : Hp) : ResultVar → Option AV
  | .tmp t => get F t
  | .cell a ty => match get F a with
    | some (.ptr i j o) => match get H i with
      | some (.cells _ _ els _) => match els[j]? with
        | some el => match aggP P ty, sizeP P ty with
          | some true, some n => if o + n ≤ el.length then some (.agg ((el.drop o).take n)) else none
          | some false, some _ => el[o]?
          | _, _ => none
        | none => none
      | _ => none
    | _ => none

def resVs (P : Program) (F : Fr) (H : Hp) : List ResultVar → Option (List AV)
  | [] => some []
  | x :: l => match resV P F H x, resVs P F H l with
    | some v, some vs => some (v :: vs)
    | _, _ => none

def resOne : List AV → AV
  | [v] => v
  | vs => .tup vs

def RetQ (P : Program) (Z : List Nat) (rs : List ResultVar) (r : AV) (H' : Hp) (al : Bool) : Post := fun e F H => (e = .normal ∨ e = .ret) ∧ ∃ vs, resVs P F H rs = some vs ∧ RC H H' al (resOne vs) r ∧ KeptH H H' al ∧
  ∀ i, i ∈ Z → ∃ ob, get H' i = some ob ∧ ob.live = true ∧ get H i ≠ none

/-- The frame that a call begins with. -/
def params : List AV → Nat → Fr
  | [], _ => []
  | v :: l, k => (k, v) :: params l (k + 1)

theorem get_params : ∀ (l : List AV) (k t : Nat) (v : AV), get (params l k) t = some v → k ≤ t ∧ l[t - k]? = some v
  | [], k, t, v, h => by simp [params, get] at h
  | u :: l, k, t, v, h => by
    simp only [params, get] at h
    split at h
    · rename_i e; subst e; injection h with h; subst h; simp
    · rename_i hne
      obtain ⟨h1, h2⟩ := get_params l (k + 1) t v h
      refine ⟨by omega, ?_⟩
      rw [show t - k = (t - (k + 1)) + 1 by omega]
      simpa using h2

section
variable {P : Program}

/-- One result, read. -/
def rvRun (a : Act) : ResultVar → Sem Value
  | .tmp t => Pure.pure (a.tmps.getD t undef)
  | .cell b t => do loadVar t (← asAddr (a.tmps.getD b undef))

theorem run_resV {F : Fr} {H : Hp} {w : World} {S : Nat → Prop} {ρ : Rho} {a : Act} {N : Nat} (hF : FRN N w S ρ (get F) a) (hH : HRF w S ρ (get H)) : ∀ (x : ResultVar) (v : AV), resV P F H x = some v →
    ∃ cv, (rvRun a x).run P w = .ok cv w ∧ VR w S ρ v cv
  | .tmp t, v, h => ⟨_, rfl, hF.at_ t v h⟩
  | .cell b ty, v, h => by
    simp only [resV] at h
    split at h
    · rename_i i j o hb
      split at h
      · rename_i e z' els fl hi
        split at h
        · rename_i el hj
          obtain ⟨bb, z, cap, hρ, e1⟩ := (hF.at_ b _ hb).ptr_inv
          obtain ⟨_, _, _, C, _, _, _, _, hc⟩ := own_cells hH.at_ trivial hi hρ
          split at h
          · rename_i n hg hz
            split at h
            · rename_i hle
              injection h with h; subst h
              have hcell : ∀ k, k < n → w.cell? ((⟨bb, j * z + o, none⟩ : Addr).add k) = some (C.getD (j * z + (o + k)) undef) := fun k hk => by
                have hk' : el[o + k]? = some (el[o + k]'(by omega)) := List.getElem?_eq_getElem (by omega)
                rw [add_lit, Nat.add_assoc]
                exact (hc j el (o + k) _ hj hk').1
              refine ⟨.agg ((List.range n).map fun k => C.getD (j * z + (o + k)) undef).toArray, ?_, .agg _ _ (by simp; omega) (fun k v hk => ?_) (fun k v hk => ?_)⟩
              · simp [rvRun, e1, asAddr, run_loadVar_agg hg hz w _ _ hcell]
              all_goals
                have hkn : k < n := by
                  have := (List.getElem?_eq_some_iff.1 hk).1
                  simp at this; omega
                rw [List.getElem?_take, if_pos hkn, List.getElem?_drop] at hk
                rw [getD_map_range hkn]
              · exact (hc j el (o + k) v hj hk).2.1
              · exact (hc j el (o + k) v hj hk).2.2
            · cases h
          · rename_i n hg hz
            obtain ⟨q1, _, q3⟩ := hc j el o v hj h
            exact ⟨_, by simp [rvRun, e1, asAddr, run_loadVar_one hg w _ _ q1], q3⟩
          · cases h
        · cases h
      · cases h
    · cases h

theorem run_resVs {F : Fr} {H : Hp} {w : World} {S : Nat → Prop} {ρ : Rho} {a : Act} {N : Nat} (hF : FRN N w S ρ (get F) a) (hH : HRF w S ρ (get H)) : ∀ (l : List ResultVar) (vs : List AV), resVs P F H l = some vs →
    ∃ cs : List Value, (l.mapM (rvRun a)).run P w = .ok cs w ∧ cs.length = vs.length ∧
      ∀ (j : Nat) (v : AV), vs[j]? = some v → ∃ c, cs[j]? = some c ∧ VR w S ρ v c
  | [], vs, h => by simp [resVs] at h; subst h; exact ⟨[], by simp, rfl, fun j v h => by simp at h⟩
  | x :: l, vs, h => by
    simp only [resVs] at h
    split at h
    · rename_i v vs' h1 h2
      injection h with h; subst h
      obtain ⟨cv, g1, g2⟩ := run_resV (P := P) hF hH x v h1
      obtain ⟨cs, g3, g4, g5⟩ := run_resVs hF hH l vs' h2
      refine ⟨cv :: cs, ?_, by simp [g4], fun j u hj => ?_⟩
      · rw [List.mapM_cons]
        simp only [Sem.run_bind, g1, Result.andThen_ok, g3, Sem.run_pure]
      · cases j with
        | zero => simp at hj; subst hj; exact ⟨cv, rfl, g2⟩
        | succ j => simpa using g5 j u (by simpa using hj)
    · cases h

theorem fc_of_aw {f : FuncId} {fn : Func} {code : Code} {mc : MC} {args : List AV} {H H' : Hp} {r : AV} {al : Bool} (hf : P.funcs[f]? = some fn) (hb : fn.body = some code) (hc : compC P fn.ntmps code = some mc) (hn : args.length ≤ fn.ntmps)
    (h : AW P fn.ntmps (keysOf H) mc (RetQ P (keysOf H) fn.results.toList r H' al) (params args 0) H) : FC P f args H r H' al := by
  intro w S ρ cargs hH hargs
  refine calls_of_wp hf hb ?_
  have hsz : (cargs ++ Array.replicate (fn.ntmps - cargs.size) undef).size = fn.ntmps := by simp [hargs.1]; omega
  have hcf : Conf fn.ntmps (keysOf H) (params args 0) H S ρ { tmps := cargs ++ Array.replicate (fn.ntmps - cargs.size) undef, defers := [] } w := by
    refine ⟨⟨hsz, fun t v hv => ?_⟩, rfl, hH, fun i hi => mem_keys.1 hi⟩
    obtain ⟨_, h2⟩ := get_params args 0 t v hv
    rw [Nat.sub_zero] at h2
    have hl : t < cargs.size := by rw [hargs.1]; exact (List.getElem?_eq_some_iff.1 h2).1
    have := hargs.2 t v h2
    rw [Array.getD_eq_getD_getElem?] at this ⊢
    rw [Array.getElem?_append_left hl]; exact this
  refine wp_mono (h code hc S ρ _ w hcf) fun e a' w' ⟨F', H'', S', ρ', ⟨he, vs, hvs, hrc, hk, hz⟩, cf, ex⟩ => ?_
  obtain ⟨cs, g1, g2, g3⟩ := run_resVs (P := P) cf.fr cf.hp _ vs hvs
  obtain ⟨k1, k2⟩ := hrf_weak hk cf.hp
  have hres : ∃ cv, (results fn a'.tmps).run P w' = .ok cv w' ∧ VR w' S' ρ' (resOne vs) cv := by
    have hm : (fn.results.mapM (rvRun a')).run P w' = .ok cs.toArray w' := by
      rw [Array.mapM_eq_mapM_toList]
      simp only [Sem.run_map, g1, Result.andThen_ok]
    refine ⟨if h : cs.toArray.size = 1 then cs.toArray[0] else .tuple cs.toArray, ?_, ?_⟩
    · have e0 : results fn a'.tmps = (do let vs ← fn.results.mapM (rvRun a'); Pure.pure (if h : vs.size = 1 then vs[0] else .tuple vs)) := by
        unfold results
        congr 2
      rw [e0, Sem.run_bind, hm]
      rfl
    · match vs, cs, g2, g3 with
      | [], [], _, _ => exact .tup [] #[] rfl fun j v h => by simp at h
      | [v], [c], _, g3 =>
        obtain ⟨c', h1, h2⟩ := g3 0 v rfl
        simp at h1; subst h1
        simpa [resOne] using h2
      | v1 :: v2 :: vs, c1 :: c2 :: cs, g2, g3 =>
        have hne : ¬ ((c1 :: c2 :: cs).toArray.size = 1) := by simp
        rw [dif_neg hne]
        refine .tup _ _ (by simpa using g2) fun j v hj => ?_
        obtain ⟨c, h1, h2⟩ := g3 j v hj
        have e : (c1 :: c2 :: cs).toArray.getD j undef = c := by
          rw [Array.getD_eq_getD_getElem?, List.getElem?_toArray, h1]; rfl
        rw [e]; exact h2
  obtain ⟨cv, r1, r2⟩ := hres
  have r3 := hrc S' ρ' w' cv cf.hp r2
  have hrho : ∀ i, get H i ≠ none → rhoW H'' H' ρ' i = ρ i := fun i hi => by
    obtain ⟨ob, z1, _, z3⟩ := hz i (mem_keys.2 hi)
    rw [rhoW_kept (by rw [z1]; simp) z3]
    exact ex.rho i (mem_keys.2 hi)
  -- a block that was own at the beginning is own at the end
  have own0 : ∀ b, LiveF ρ (get H) All b → ¬ Sw H'' H' al S' ρ' b := fun b ⟨i, ob, z, cap, _, hgi, hl, hr⟩ hs => by
    have hne : get H i ≠ none := by rw [hgi]; simp
    obtain ⟨ob', z1, z2, z3⟩ := hz i (mem_keys.2 hne)
    exact (k1.cells_ne z1 z2 (by rw [hrho i hne]; exact hr)).1 hs
  have post : a'.defers = [] ∧ ∃ v, (results fn a'.tmps).run P w' = .ok v w' ∧ ∃ cv S2 ρ2, Ending.returned v = .returned cv ∧ VR w' S2 ρ2 r cv ∧ HRF w' S2 ρ2 (get H') ∧
      Keep w w' (LiveF ρ (get H) All) ∧ (∀ b, S2 b → (al = true ∧ S b) ∨ w.heap.size ≤ b) ∧ (∀ b, LiveF ρ2 (get H') All b → LiveF ρ (get H) All b ∨ w.heap.size ≤ b) ∧
      (∀ i, get H i ≠ none → ρ2 i = ρ i) ∧ (∀ i, get H i ≠ none → get H' i ≠ none) := by
    refine ⟨cf.defers, cv, r1, cv, _, _, rfl, r3, k1, ex.keep, fun b hb => ?_, fun b hb => ?_, hrho, fun i hi => ?_⟩
    · have hn0 : ¬ LiveF ρ (get H) All b := fun h => own0 b h hb
      rcases hb with ⟨ha, hb⟩ | ⟨i, ob, z, cap, _, hg, hl, hr⟩
      · rcases ex.fresh b hb with h1 | h1 | h1
        · exact .inl ⟨ha, h1⟩
        · exact absurd h1 hn0
        · exact .inr h1
      · rcases ex.own b ⟨i, ob, z, cap, trivial, hg, hl, hr⟩ with h1 | h1
        · exact absurd h1 hn0
        · exact .inr h1
    · obtain ⟨i, ob, z, cap, _, hg, hl, hr⟩ := k2 b hb
      exact ex.own b ⟨i, ob, z, cap, trivial, hg, hl, hr⟩
    · obtain ⟨ob, z1, _, _⟩ := hz i (mem_keys.2 hi)
      rw [z1]; simp
  rcases he with rfl | rfl
  · exact post
  · exact post

end
end Go.Proofs.Ytadjdnhnbkcakaa

/-! The rules as they are used: one for each operation and each make of value. -/
namespace Go.Proofs.Ytadjdnhnbkcakaa
open Go.RowKit

/-- The guard says yes. -/
def gOK (F : Fr) : Option (Nat × Bool) → Bool
  | none => true
  | some (t, w) => match get F t with
    | some (.bool b) => b == w
    | _ => false

/-- The guard says no. -/
def gNo (F : Fr) : Option (Nat × Bool) → Bool
  | none => false
  | some (t, w) => match get F t with
    | some (.bool b) => b == !w
    | some .und => true
    | _ => false

section
variable {P : Program} {N : Nat} {F : Fr} {H : Hp} {ml : List MOper} {K : List Fp → Fr → Hp → Prop} {d : Nat} {g : Option (Nat × Bool)} {pre : List Nat}

theorem gOK_spec (h : gOK F g = true) : g = none ∨ ∃ t want, g = some (t, want) ∧ get F t = some (.bool want) := by
  cases g with
  | none => exact .inl rfl
  | some q =>
    obtain ⟨t, w⟩ := q
    simp only [gOK] at h
    split at h
    · rename_i b hb
      simp at h; subst h
      exact .inr ⟨t, b, rfl, hb⟩
    · cases h

theorem rs_op {mo : MOper} (hg : gOK F mo.guard = true) (h : mev F H (mo.dst.getD 0) (fun v rd wr H1 => RS P N ml (putF F mo.dst v) H1 (fun fps => K ((rd, wr) :: fps))) mo.op) : RS P N (mo :: ml) F H K :=
  rs_cons fun ops o hc => by
    obtain ⟨v, rd, wr, H1, hK, hs⟩ := stepM_op hc h (gOK_spec hg)
    exact ⟨v, rd, wr, H1, hs, hK⟩

theorem rs_skip {dst : Option Nat} {op : MOp} (hg : gNo F g = true) (h : RS P N ml (putF F dst .und) H (fun fps => K (([], []) :: fps))) : RS P N (⟨dst, op, g, pre⟩ :: ml) F H K :=
  rs_cons fun ops o hc => by
    cases g with
    | none => simp [gNo] at hg
    | some q =>
      obtain ⟨t, w⟩ := q
      refine ⟨.und, [], [], H, stepM_skip hc rfl ?_, h⟩
      simp only [gNo] at hg
      split at hg
      · rename_i b hb
        simp at hg; subst hg; exact .inl hb
      · rename_i hb; exact .inr hb
      · cases hg

theorem rs_mv {x : Arg} {v : AV} (hg : gOK F g = true) (hv : aarg F x = some v) (h : RS P N ml ((d, v) :: F) H (fun fps => K (([], []) :: fps))) : RS P N (⟨some d, .mv x, g, pre⟩ :: ml) F H K :=
  rs_op hg (by simp only [mev, hv]; exact h)

theorem rs_pick {c a b : Arg} {t : Bool} {v : AV} (hg : gOK F g = true) (hc : aarg F c = some (.bool t)) (hv : aarg F (if t = true then a else b) = some v) (h : RS P N ml ((d, v) :: F) H (fun fps => K (([], []) :: fps))) :
    RS P N (⟨some d, .pick c a b, g, pre⟩ :: ml) F H K :=
  rs_op hg (by simp only [mev, hc, hv]; exact h)

theorem rs_alloc {e z : Nat} {zero : List AV} (hg : gOK F g = true) (hz : zero.length = z) (hd : get H d = none) (h : RS P N ml ((d, .ptr d 0 0) :: F) ((d, .cells e z [zero] true) :: H) (fun fps => K (([], [d]) :: fps))) :
    RS P N (⟨some d, .alloc e z zero, g, pre⟩ :: ml) F H K :=
  rs_op hg (by simp only [mev]; exact ⟨hz, hd, h⟩)

theorem rs_box {e z : Nat} {x : Arg} {v : AV} {cs : List AV} {fl : Bool} (hg : gOK F g = true) (hv : aarg F x = some v) (hc : acells v = some cs) (hz : cs.length = z) (hd : get H d = none) (hf : closedL cs = fl)
    (h : RS P N ml ((d, .ptr d 0 0) :: F) ((d, .cells e z [cs] fl) :: H) (fun fps => K (([], [d]) :: fps))) : RS P N (⟨some d, .box e z x, g, pre⟩ :: ml) F H K :=
  rs_op hg (by simp only [mev, hv, hc]; subst hf; exact ⟨hz, hd, h⟩)

theorem rs_build {zero cs : List AV} {ps : List (Nat × Nat × Arg)} (hg : gOK F g = true) (hf : fillA F zero ps = some cs) (h : RS P N ml ((d, .agg cs) :: F) H (fun fps => K (([], []) :: fps))) : RS P N (⟨some d, .build zero ps, g, pre⟩ :: ml) F H K :=
  rs_op hg (by simp only [mev, hf]; exact h)

theorem rs_bslice {e z len : Nat} {zero l : List AV} {els : List (List AV)} {ps : List (Nat × Arg)} {fl : Bool} (hg : gOK F g = true) (hf : fillS F z (reps len zero) ps = some l) (hz : zero.length = z) (hd : get H d = none) (he : chunks z len l = els) (hfl : closedL l = fl)
    (h : RS P N ml ((d, .sl d 0 len) :: F) ((d, .cells e z els fl) :: H) (fun fps => K (([], [d]) :: fps))) : RS P N (⟨some d, .bslice e z zero len ps, g, pre⟩ :: ml) F H K :=
  rs_op hg (by simp only [mev, hf]; subst he hfl; exact ⟨hz, hd, h⟩)

theorem rs_ld_p {n i j o e z : Nat} {x : Arg} {els : List (List AV)} {fl : Bool} {el : List AV} {v : AV} (hg : gOK F g = true) (hx : aarg F x = some (.ptr i j o)) (hi : get H i = some (.cells e z els fl)) (hj : els[j]? = some el) (hv : el[o]? = some v)
    (h : RS P N ml ((d, v) :: F) H (fun fps => K (([i], []) :: fps))) : RS P N (⟨some d, .ld false n x, g, pre⟩ :: ml) F H K :=
  rs_op hg (by simp only [mev, hx, hi, hj, hv, Bool.false_eq_true, if_false]; exact h)

theorem rs_ld_pa {n i j o e z : Nat} {x : Arg} {els : List (List AV)} {fl : Bool} {el cs : List AV} (hg : gOK F g = true) (hx : aarg F x = some (.ptr i j o)) (hi : get H i = some (.cells e z els fl)) (hj : els[j]? = some el) (hn : o + n ≤ el.length) (hc : (el.drop o).take n = cs)
    (h : RS P N ml ((d, .agg cs) :: F) H (fun fps => K (([i], []) :: fps))) : RS P N (⟨some d, .ld true n x, g, pre⟩ :: ml) F H K :=
  rs_op hg (by simp only [mev, hx, hi, hj, if_true]; subst hc; exact ⟨hn, h⟩)

theorem rs_ld_r {n : Nat} {x : Arg} {cs : List AV} {v : AV} (hg : gOK F g = true) (hx : aarg F x = some (.rp cs)) (hv : cs[0]? = some v) (h : RS P N ml ((d, v) :: F) H (fun fps => K (([], []) :: fps))) : RS P N (⟨some d, .ld false n x, g, pre⟩ :: ml) F H K :=
  rs_op hg (by simp only [mev, hx, hv, Bool.false_eq_true, if_false]; exact h)

theorem rs_ld_ra {n : Nat} {x : Arg} {cs cs' : List AV} (hg : gOK F g = true) (hx : aarg F x = some (.rp cs)) (hn : n ≤ cs.length) (hc : cs.take n = cs') (h : RS P N ml ((d, .agg cs') :: F) H (fun fps => K (([], []) :: fps))) :
    RS P N (⟨some d, .ld true n x, g, pre⟩ :: ml) F H K :=
  rs_op hg (by simp only [mev, hx, if_true]; subst hc; exact ⟨hn, h⟩)

theorem rs_st {n i j o e z : Nat} {x y : Arg} {els els' : List (List AV)} {fl fl' : Bool} {el cs : List AV} {u : AV} (hg : gOK F g = true) (hx : aarg F x = some (.ptr i j o)) (hy : aarg F y = some u) (hi : get H i = some (.cells e z els fl)) (hc : acells u = some cs)
    (hj : els[j]? = some el) (hn : cs.length = n) (ho : o + n ≤ el.length) (he : els.set j (setAt el o cs) = els') (hfl : (fl && closedL cs) = fl')
    (h : RS P N ml F ((i, .cells e z els' fl') :: H) (fun fps => K (([], [i]) :: fps))) : RS P N (⟨none, .st n x y, g, pre⟩ :: ml) F H K :=
  rs_op hg (by simp only [mev, hx, hy, hi, hc, hj]; subst he hfl; exact ⟨hn, ho, h⟩)

theorem rs_nilc_p {x : Arg} {i j o : Nat} (hg : gOK F g = true) (hx : aarg F x = some (.ptr i j o)) (h : RS P N ml ((d, .ptr i j o) :: F) H (fun fps => K (([], []) :: fps))) : RS P N (⟨some d, .nilc x, g, pre⟩ :: ml) F H K :=
  rs_op hg (by simp only [mev, hx]; exact h)
theorem rs_nilc_r {x : Arg} {cs : List AV} (hg : gOK F g = true) (hx : aarg F x = some (.rp cs)) (h : RS P N ml ((d, .rp cs) :: F) H (fun fps => K (([], []) :: fps))) : RS P N (⟨some d, .nilc x, g, pre⟩ :: ml) F H K :=
  rs_op hg (by simp only [mev, hx]; exact h)

/-- A binary operator, whatever it gives. -/
theorem rs_bin {op : BinOp} {x y : Arg} {k k' : IntKind} {a b : Int} (hg : gOK F g = true) (hx : aarg F x = some (.int k a)) (hy : aarg F y = some (.int k' b))
    (h : binV op k k' a b fun v => RS P N ml ((d, v) :: F) H (fun fps => K (([], []) :: fps))) : RS P N (⟨some d, .bin op x y, g, pre⟩ :: ml) F H K :=
  rs_op hg (by simp only [mev, hx, hy]; exact h)

theorem wrap64_eq {n : Int} (h : -9223372036854775808 ≤ n ∧ n ≤ 9223372036854775807) : IntKind.i64.wrap n = n := by rw [IntKind.wrap_i64]; omega

theorem rs_add {x y : Arg} {a b : Int} (hg : gOK F g = true) (hx : aarg F x = some (.int .i64 a)) (hy : aarg F y = some (.int .i64 b)) (hr : -9223372036854775808 ≤ a + b ∧ a + b ≤ 9223372036854775807)
    (h : RS P N ml ((d, .int .i64 (a + b)) :: F) H (fun fps => K (([], []) :: fps))) : RS P N (⟨some d, .bin .add x y, g, pre⟩ :: ml) F H K :=
  rs_bin hg hx hy ⟨rfl, by rw [wrap64_eq hr]; exact h⟩
theorem rs_sub {x y : Arg} {a b : Int} (hg : gOK F g = true) (hx : aarg F x = some (.int .i64 a)) (hy : aarg F y = some (.int .i64 b)) (hr : -9223372036854775808 ≤ a - b ∧ a - b ≤ 9223372036854775807)
    (h : RS P N ml ((d, .int .i64 (a - b)) :: F) H (fun fps => K (([], []) :: fps))) : RS P N (⟨some d, .bin .sub x y, g, pre⟩ :: ml) F H K :=
  rs_bin hg hx hy ⟨rfl, by rw [wrap64_eq hr]; exact h⟩

/-- A comparison that is decided. -/
def cmpV (op : BinOp) (a b : Int) : Option Prop :=
  match op with
  | .eql => some (a = b)
  | .neq => some (a ≠ b)
  | .lss => some (a < b)
  | .leq => some (a ≤ b)
  | .gtr => some (b < a)
  | .geq => some (b ≤ a)
  | _ => none

theorem rs_cmp_t {op : BinOp} {x y : Arg} {k : IntKind} {a b : Int} {p : Prop} (hg : gOK F g = true) (hx : aarg F x = some (.int k a)) (hy : aarg F y = some (.int k b)) (hop : cmpV op a b = some p) (hp : p)
    (h : RS P N ml ((d, .bool true) :: F) H (fun fps => K (([], []) :: fps))) : RS P N (⟨some d, .bin op x y, g, pre⟩ :: ml) F H K :=
  rs_bin hg hx hy (by
    cases op <;> simp only [cmpV, Option.some.injEq] at hop <;> first | cases hop | skip
    all_goals
      first
        | exact ⟨rfl, by rw [show (a == b) = true by simpa using hp]; exact h⟩
        | exact ⟨rfl, by rw [show (a != b) = true by simpa using hp]; exact h⟩
        | exact ⟨rfl, by rw [show decide (a < b) = true by simpa using hp]; exact h⟩
        | exact ⟨rfl, by rw [show decide (a ≤ b) = true by simpa using hp]; exact h⟩
        | exact ⟨rfl, by rw [show decide (a > b) = true by simpa using hp]; exact h⟩
        | exact ⟨rfl, by rw [show decide (a ≥ b) = true by simpa using hp]; exact h⟩)

theorem rs_cmp_f {op : BinOp} {x y : Arg} {k : IntKind} {a b : Int} {p : Prop} (hg : gOK F g = true) (hx : aarg F x = some (.int k a)) (hy : aarg F y = some (.int k b)) (hop : cmpV op a b = some p) (hp : ¬ p)
    (h : RS P N ml ((d, .bool false) :: F) H (fun fps => K (([], []) :: fps))) : RS P N (⟨some d, .bin op x y, g, pre⟩ :: ml) F H K :=
  rs_bin hg hx hy (by
    cases op <;> simp only [cmpV, Option.some.injEq] at hop <;> first | cases hop | skip
    all_goals
      first
        | exact ⟨rfl, by rw [show (a == b) = false by simpa using hp]; exact h⟩
        | exact ⟨rfl, by rw [show (a != b) = false by simpa using hp]; exact h⟩
        | exact ⟨rfl, by rw [show decide (a < b) = false by simpa using hp]; exact h⟩
        | exact ⟨rfl, by rw [show decide (a ≤ b) = false by simpa using hp]; exact h⟩
        | exact ⟨rfl, by rw [show decide (a > b) = false by simpa using hp]; exact h⟩
        | exact ⟨rfl, by rw [show decide (a ≥ b) = false by simpa using hp]; exact h⟩)

theorem rs_not {x : Arg} {b : Bool} (hg : gOK F g = true) (hx : aarg F x = some (.bool b)) (h : RS P N ml ((d, .bool (!b)) :: F) H (fun fps => K (([], []) :: fps))) : RS P N (⟨some d, .un .not x, g, pre⟩ :: ml) F H K :=
  rs_op hg (by simp only [mev, hx]; exact h)
theorem rs_neg {x : Arg} {n : Int} (hg : gOK F g = true) (hx : aarg F x = some (.int .i64 n)) (hr : -9223372036854775807 ≤ n ∧ n ≤ 9223372036854775807) (h : RS P N ml ((d, .int .i64 (-n)) :: F) H (fun fps => K (([], []) :: fps))) : RS P N (⟨some d, .un .neg x, g, pre⟩ :: ml) F H K :=
  rs_op hg (by simp only [mev, hx]; rw [wrap64_eq (by omega), Int.zero_sub]; exact h)
theorem rs_cvt {x : Arg} {k k' : IntKind} {n m : Int} (hg : gOK F g = true) (hx : aarg F x = some (.int k' n)) (hw : k.wrap n = m) (h : RS P N ml ((d, .int k m) :: F) H (fun fps => K (([], []) :: fps))) : RS P N (⟨some d, .cvt k x, g, pre⟩ :: ml) F H K :=
  rs_op hg (by simp only [mev, hx]; subst hw; exact h)
theorem rs_mkfn {fn : Fn} {caps : List Arg} {vs : List AV} (hg : gOK F g = true) (hv : aargs F caps = some vs) (h : RS P N ml ((d, .fn fn vs) :: F) H (fun fps => K (([], []) :: fps))) : RS P N (⟨some d, .mkfn fn caps, g, pre⟩ :: ml) F H K :=
  rs_op hg (by simp only [mev, hv]; exact h)
theorem rs_mksl {e z by_ : Nat} {zero : List AV} {l c : Arg} {n : Int} (hg : gOK F g = true) (hl : aarg F l = some (.int .i64 n)) (hc : aarg F c = some (.int .i64 n)) (hz : zero.length = z) (hd : get H d = none) (h0 : 0 ≤ n) (h63 : n ≤ 9223372036854775807) (hb : (by_ : Int) * n ≤ 281474976710656)
    (h : RS P N ml ((d, .sl d 0 n.toNat) :: F) ((d, .cells e z (List.replicate n.toNat zero) true) :: H) (fun fps => K (([], [d]) :: fps))) : RS P N (⟨some d, .mksl e z by_ zero l c, g, pre⟩ :: ml) F H K :=
  rs_op hg (by simp only [mev, hl, hc]; exact ⟨hz, hd, h0, trivial, h63, hb, h⟩)
theorem rs_slc_r {z z' : Nat} {x : Arg} {lo hi : Option Arg} {els els' : List (List AV)} {l q : Int} (hg : gOK F g = true) (hx : aarg F x = some (.rs z' els)) (hl : abound F 0 lo = some l) (hh : abound F els.length hi = some q) (hz : z' = z) (h0 : 0 ≤ l) (h1 : l ≤ q) (h2 : q ≤ els.length)
    (he : (els.drop l.toNat).take (q.toNat - l.toNat) = els') (h : RS P N ml ((d, .rs z els') :: F) H (fun fps => K (([], []) :: fps))) : RS P N (⟨some d, .slc z x lo hi, g, pre⟩ :: ml) F H K :=
  rs_op hg (by simp only [mev, hx, hl, hh]; subst he; exact ⟨.inl hz, h0, h1, h2, h⟩)
theorem rs_slc_s {z i j n e : Nat} {x : Arg} {lo hi : Option Arg} {els : List (List AV)} {fl : Bool} {l q : Int} (hg : gOK F g = true) (hx : aarg F x = some (.sl i j n)) (hl : abound F 0 lo = some l) (hh : abound F n hi = some q) (hi' : get H i = some (.cells e z els fl)) (h0 : 0 ≤ l) (hlq : l = 0 ∨ l < q) (h1 : l ≤ q) (h2 : q ≤ n)
    (h : RS P N ml ((d, .sl i (j + l.toNat) (q.toNat - l.toNat)) :: F) H (fun fps => K (([i], []) :: fps))) : RS P N (⟨some d, .slc z x lo hi, g, pre⟩ :: ml) F H K :=
  rs_op hg (by simp only [mev, hx, hl, hh, hi']; exact ⟨trivial, h0, hlq, h1, h2, h⟩)
theorem rs_slarr {n i j o : Nat} {x : Arg} {lo hi : Option Arg} {l q : Int} (hg : gOK F g = true) (hx : aarg F x = some (.ptr i j o)) (hl : abound F 0 lo = some l) (hh : abound F n hi = some q) (h0 : 0 ≤ l) (hlq : l = 0 ∨ l < q) (h1 : l ≤ q) (h2 : q ≤ n)
    (h : RS P N ml ((d, .sa i j (o + l.toNat) (q.toNat - l.toNat)) :: F) H (fun fps => K (([], []) :: fps))) : RS P N (⟨some d, .slarr n x lo hi, g, pre⟩ :: ml) F H K :=
  rs_op hg (by simp only [mev, hx, hl, hh]; exact ⟨h0, hlq, h1, h2, h⟩)
theorem rs_fa_p {off i j o : Nat} {x : Arg} (hg : gOK F g = true) (hx : aarg F x = some (.ptr i j o)) (h : RS P N ml ((d, .ptr i j (o + off)) :: F) H (fun fps => K (([], []) :: fps))) : RS P N (⟨some d, .fa off x, g, pre⟩ :: ml) F H K :=
  rs_op hg (by simp only [mev, hx]; exact h)
theorem rs_fa_r {off : Nat} {x : Arg} {cs cs' : List AV} (hg : gOK F g = true) (hx : aarg F x = some (.rp cs)) (hc : cs.drop off = cs') (h : RS P N ml ((d, .rp cs') :: F) H (fun fps => K (([], []) :: fps))) : RS P N (⟨some d, .fa off x, g, pre⟩ :: ml) F H K :=
  rs_op hg (by simp only [mev, hx]; subst hc; exact h)
theorem rs_fld {off n : Nat} {x : Arg} {cs : List AV} {v : AV} (hg : gOK F g = true) (hx : aarg F x = some (.agg cs)) (hv : cs[off]? = some v) (h : RS P N ml ((d, v) :: F) H (fun fps => K (([], []) :: fps))) : RS P N (⟨some d, .fld false off n x, g, pre⟩ :: ml) F H K :=
  rs_op hg (by simp only [mev, hx, hv, Bool.false_eq_true, if_false]; exact h)
theorem rs_flda {off n : Nat} {x : Arg} {cs cs' : List AV} (hg : gOK F g = true) (hx : aarg F x = some (.agg cs)) (hn : off + n ≤ cs.length) (hc : (cs.drop off).take n = cs') (h : RS P N ml ((d, .agg cs') :: F) H (fun fps => K (([], []) :: fps))) : RS P N (⟨some d, .fld true off n x, g, pre⟩ :: ml) F H K :=
  rs_op hg (by simp only [mev, hx, if_true]; subst hc; exact ⟨hn, h⟩)
theorem rs_ix_r {z : Nat} {x i : Arg} {els : List (List AV)} {k : IntKind} {t : Int} {el : List AV} (hg : gOK F g = true) (hx : aarg F x = some (.rs z els)) (hi : aarg F i = some (.int k t)) (h0 : 0 ≤ t) (h1 : t < els.length) (he : els[t.toNat]? = some el)
    (h : RS P N ml ((d, .rp el) :: F) H (fun fps => K (([], []) :: fps))) : RS P N (⟨some d, .ixsl z x i, g, pre⟩ :: ml) F H K :=
  rs_op hg (by simp only [mev, hx, hi, he]; exact ⟨h0, h1, trivial, h⟩)
theorem rs_ix_s {z a j n e : Nat} {x i : Arg} {k : IntKind} {t : Int} {els : List (List AV)} {fl : Bool} (hg : gOK F g = true) (hx : aarg F x = some (.sl a j n)) (hi : aarg F i = some (.int k t)) (ha : get H a = some (.cells e z els fl)) (h0 : 0 ≤ t) (h1 : t < n)
    (h : RS P N ml ((d, .ptr a (j + t.toNat) 0) :: F) H (fun fps => K (([a], []) :: fps))) : RS P N (⟨some d, .ixsl z x i, g, pre⟩ :: ml) F H K :=
  rs_op hg (by simp only [mev, hx, hi, ha]; exact ⟨h0, h1, trivial, h⟩)
theorem rs_ixarr_p {len z a j o : Nat} {x i : Arg} {k : IntKind} {t : Int} (hg : gOK F g = true) (hx : aarg F x = some (.ptr a j o)) (hi : aarg F i = some (.int k t)) (h0 : 0 ≤ t) (h1 : t < len)
    (h : RS P N ml ((d, .ptr a j (o + t.toNat * z)) :: F) H (fun fps => K (([], []) :: fps))) : RS P N (⟨some d, .ixarr len z x i, g, pre⟩ :: ml) F H K :=
  rs_op hg (by simp only [mev, hx, hi]; exact ⟨h0, h1, h⟩)
theorem rs_ixarr_r {len z : Nat} {x i : Arg} {cs cs' : List AV} {k : IntKind} {t : Int} (hg : gOK F g = true) (hx : aarg F x = some (.rp cs)) (hi : aarg F i = some (.int k t)) (h0 : 0 ≤ t) (h1 : t < len) (hc : cs.drop (t.toNat * z) = cs')
    (h : RS P N ml ((d, .rp cs') :: F) H (fun fps => K (([], []) :: fps))) : RS P N (⟨some d, .ixarr len z x i, g, pre⟩ :: ml) F H K :=
  rs_op hg (by simp only [mev, hx, hi]; subst hc; exact ⟨h0, h1, h⟩)
theorem rs_ixval {len z : Nat} {x i : Arg} {cs : List AV} {k : IntKind} {t : Int} {v : AV} (hg : gOK F g = true) (hx : aarg F x = some (.agg cs)) (hi : aarg F i = some (.int k t)) (h0 : 0 ≤ t) (h1 : t < len) (hv : cs[t.toNat * z]? = some v)
    (h : RS P N ml ((d, v) :: F) H (fun fps => K (([], []) :: fps))) : RS P N (⟨some d, .ixval len z false x i, g, pre⟩ :: ml) F H K :=
  rs_op hg (by simp only [mev, hx, hi, hv, Bool.false_eq_true, if_false]; exact ⟨h0, h1, h⟩)
theorem rs_ixvala {len z : Nat} {x i : Arg} {cs cs' : List AV} {k : IntKind} {t : Int} (hg : gOK F g = true) (hx : aarg F x = some (.agg cs)) (hi : aarg F i = some (.int k t)) (h0 : 0 ≤ t) (h1 : t < len) (hn : t.toNat * z + z ≤ cs.length) (hc : (cs.drop (t.toNat * z)).take z = cs')
    (h : RS P N ml ((d, .agg cs') :: F) H (fun fps => K (([], []) :: fps))) : RS P N (⟨some d, .ixval len z true x i, g, pre⟩ :: ml) F H K :=
  rs_op hg (by simp only [mev, hx, hi, if_true]; subst hc; exact ⟨h0, h1, hn, h⟩)
theorem rs_ext {x : Arg} {i : Nat} {vs : List AV} {v : AV} (hg : gOK F g = true) (hx : aarg F x = some (.tup vs)) (hv : vs[i]? = some v) (h : RS P N ml ((d, v) :: F) H (fun fps => K (([], []) :: fps))) : RS P N (⟨some d, .ext x i, g, pre⟩ :: ml) F H K :=
  rs_op hg (by simp only [mev, hx, hv]; exact h)
theorem rs_len_r {z : Nat} {x : Arg} {els : List (List AV)} {n : Nat} (hg : gOK F g = true) (hx : aarg F x = some (.rs z els)) (hn : els.length = n) (h : RS P N ml ((d, .int .i64 n) :: F) H (fun fps => K (([], []) :: fps))) : RS P N (⟨some d, .len x, g, pre⟩ :: ml) F H K :=
  rs_op hg (by simp only [mev, hx]; subst hn; exact h)
theorem rs_len_s {i j n : Nat} {x : Arg} (hg : gOK F g = true) (hx : aarg F x = some (.sl i j n)) (h : RS P N ml ((d, .int .i64 n) :: F) H (fun fps => K (([], []) :: fps))) : RS P N (⟨some d, .len x, g, pre⟩ :: ml) F H K :=
  rs_op hg (by simp only [mev, hx]; exact h)
theorem rs_len_n {x : Arg} (hg : gOK F g = true) (hx : aarg F x = some .nils) (h : RS P N ml ((d, .int .i64 0) :: F) H (fun fps => K (([], []) :: fps))) : RS P N (⟨some d, .len x, g, pre⟩ :: ml) F H K :=
  rs_op hg (by simp only [mev, hx]; exact h)
theorem rs_lenc {n : Nat} (hg : gOK F g = true) (h : RS P N ml ((d, .int .i64 n) :: F) H (fun fps => K (([], []) :: fps))) : RS P N (⟨some d, .lenc n, g, pre⟩ :: ml) F H K :=
  rs_op hg (by simp only [mev]; exact h)
theorem rs_app_n {e z by_ n : Nat} {zero : List AV} {s x : Arg} {v : AV} {rd : List Nat} {news : List (List AV)} {fl : Bool} (hg : gOK F g = true) (hs : aarg F s = some .nils) (hx : aarg F x = some v) (hsrc : srcOf H z v = some (rd, news)) (hz : zero.length = z) (hd : get H d = none)
    (hn : ∀ el ∈ news, el.length = z) (hl : news.length = n) (hb : n * by_ ≤ 140737488355328) (h63 : n ≤ 9223372036854775807) (hfl : flatE news = fl)
    (h : RS P N ml ((d, .sl d 0 n) :: F) ((d, .cells e z news fl) :: H) (fun fps => K ((rd, [d]) :: fps))) : RS P N (⟨some d, .app e z by_ zero s x, g, pre⟩ :: ml) F H K :=
  rs_op hg (by subst hl hfl; simp only [mev, hs, hx, hsrc]; exact ⟨hz, hd, hn, hb, h63, h⟩)
theorem rs_app {e z by_ i n m : Nat} {zero : List AV} {s x : Arg} {v : AV} {rd : List Nat} {els news : List (List AV)} {fl fl' : Bool} (hg : gOK F g = true) (hs : aarg F s = some (.sl i 0 n)) (hx : aarg F x = some v) (hi : get H i = some (.cells e z els fl)) (hsrc : srcOf H z v = some (rd, news))
    (hz : zero.length = z) (hd : get H d = none) (hl : els.length = n) (hird : i ∉ rd) (hn : ∀ el ∈ news, el.length = z) (hm : news.length = m) (hb : (n + m) * by_ ≤ 140737488355328) (h63 : n + m ≤ 9223372036854775807) (hfl : (fl && flatE news) = fl')
    (h : RS P N ml ((d, .sl d 0 (n + m)) :: F) ((d, .cells e z (els ++ news) fl') :: (i, .dead) :: H) (fun fps => K ((rd, [i, d]) :: fps))) : RS P N (⟨some d, .app e z by_ zero s x, g, pre⟩ :: ml) F H K :=
  rs_op hg (by subst hm hfl; simp only [mev, hs, hx, hi, hsrc]; exact ⟨hz, hd, trivial, trivial, hl, hird, hn, hb, h63, h⟩)
theorem rs_cpy {i j o n e z m : Nat} {x y : Arg} {v : AV} {els els' news : List (List AV)} {fl fl' : Bool} {el : List AV} {rd : List Nat} (hg : gOK F g = true) (hx : aarg F x = some (.sa i j o n)) (hy : aarg F y = some v) (hi : get H i = some (.cells e z els fl)) (hsrc : srcOf H 1 v = some (rd, news)) (hj : els[j]? = some el)
    (hn : ∀ c ∈ news, c.length = 1) (hird : i ∉ rd) (hm : news.length = m) (hmn : m ≤ n) (ho : o + m ≤ el.length) (he : els.set j (setAt el o news.flatten) = els') (hfl : (fl && flatE news) = fl')
    (h : RS P N ml ((d, .int .i64 m) :: F) ((i, .cells e z els' fl') :: H) (fun fps => K ((rd, [i]) :: fps))) : RS P N (⟨some d, .cpy x y, g, pre⟩ :: ml) F H K :=
  rs_op hg (by subst hm he hfl; simp only [mev, hx, hy, hi, hsrc, hj]; exact ⟨hn, hird, hmn, ho, h⟩)
theorem rs_mn {x y : Arg} {k k' : IntKind} {a b c : Int} (hg : gOK F g = true) (hx : aarg F x = some (.int k a)) (hy : aarg F y = some (.int k' b)) (hc : min a b = c) (h : RS P N ml ((d, .int k c) :: F) H (fun fps => K (([], []) :: fps))) : RS P N (⟨some d, .mn x y, g, pre⟩ :: ml) F H K :=
  rs_op hg (by simp only [mev, hx, hy]; subst hc; exact h)
theorem rs_mx {x y : Arg} {k k' : IntKind} {a b c : Int} (hg : gOK F g = true) (hx : aarg F x = some (.int k a)) (hy : aarg F y = some (.int k' b)) (hc : max a b = c) (h : RS P N ml ((d, .int k c) :: F) H (fun fps => K (([], []) :: fps))) : RS P N (⟨some d, .mx x y, g, pre⟩ :: ml) F H K :=
  rs_op hg (by simp only [mev, hx, hy]; subst hc; exact h)

/-- One value into a call. -/
def HV (H Hs : Hp) (rd : List Nat) (al : Bool) (v v' : AV) : Prop :=
  ∀ (w : World) (S : Nat → Prop) (ρ : Rho) (c : Value), HRi (fun i => i ∈ rd ∨ get Hs i ≠ none) w S ρ H → VR w S ρ v c →
    VR w (fun b => S b ∨ (al = false ∧ LiveB ρ H (fun i => i ∈ rd) b)) (fun i => if get Hs i ≠ none then ρ i else none) v' c

theorem hv_same {Hs : Hp} {rd : List Nat} {al : Bool} {v : AV} (hs : scopedV (keysOf Hs) v = true) : HV H Hs rd al v v := fun w S ρ c _ h =>
  (h.scope hs (fun i hi => if_pos (mem_keys.1 hi))).mono (fun b hb => .inl hb) (fun _ _ _ h => h) (fun _ _ h => h)
theorem hv_nils {Hs : Hp} {rd : List Nat} {al : Bool} {z : Nat} : HV H Hs rd al .nils (.rs z []) := fun w S ρ c _ h => by
  rw [h.nils_inv]; exact .cl (.rs0 z none 0)
theorem hv_sl {Hs : Hp} {rd : List Nat} {i e z j n : Nat} {els els' : List (List AV)} (hi : i ∈ rd) (hg : get H i = some (.cells e z els true)) (hb : j + n ≤ els.length) (he : (els.drop j).take n = els') : HV H Hs rd false (.sl i j n) (.rs z els') := fun w S ρ c hh hv => by
  subst he
  have hlen : ((els.drop j).take n).length = n := by simp; omega
  rcases hv.sl_inv with ⟨b, z0, cap, cap', hρ, hjc, hnc, rfl⟩ | ⟨z0, hρ, rfl, rfl, rfl⟩
  · obtain ⟨bk, z1, c1, q1, hz, q2⟩ := hh.ob i _ (.inl hi) hg
    rw [hρ] at q1
    injection q1 with q1
    obtain ⟨rfl, rfl, rfl⟩ : some b = bk ∧ z0 = z1 ∧ cap = c1 := by simpa using q1
    subst hz
    obtain ⟨hs, hm, C, hC, e1, e2, e3, e4⟩ := q2
    have hcell : ∀ (q : Nat) (el : List AV) (k : Nat) (u : AV), ((els.drop j).take n)[q]? = some el → el[k]? = some u → els[j + q]? = some el := fun q el k u hq _ => by
      rw [List.getElem?_take] at hq
      split at hq
      · rw [List.getElem?_drop] at hq; exact hq
      · cases hq
    have hq := CR.rs (w := w) (S := fun b => S b ∨ (false = false ∧ LiveB ρ H (fun i => i ∈ rd) b)) z ((els.drop j).take n) b (j * z) cap' (fun q k => C.getD ((j + q) * z + k) undef) (.inr ⟨rfl, i, _, z, cap, hi, hg, rfl, hρ⟩) (by omega)
      (fun q el k u hq hk => by
        have h1 := hcell q el k u hq hk
        obtain ⟨g1, g2⟩ := e4 (j + q) el k u h1 hk
        have hkz : k < z := Nat.lt_of_lt_of_le (List.getElem?_eq_some_iff.1 hk).1 (e3 _ el h1)
        have hjl : j + q < els.length := (List.getElem?_eq_some_iff.1 h1).1
        have hlt : (j + q) * z + k < C.size := by
          rw [e1]
          calc (j + q) * z + k < (j + q) * z + z := by omega
            _ = (j + q + 1) * z := by rw [Nat.add_mul (j + q), Nat.one_mul]
            _ ≤ cap * z := Nat.mul_le_mul_right _ (by omega)
        refine ⟨?_, g1⟩
        rw [← Nat.add_mul, cell_of_row w b _ C e (0, 0) hC]
        exact getD_some hlt)
      (fun q el k u hq hk => by
        obtain ⟨_, g2⟩ := e4 (j + q) el k u (hcell q el k u hq hk) hk
        rw [if_pos rfl] at g2
        exact g2.mono (fun b hb => .inl hb) (fun _ _ _ h => h))
    rw [hlen] at hq
    exact .cl hq
  · simp; exact .cl (.rs0 z none 0)

inductive HVs (H Hs : Hp) (rd : List Nat) (al : Bool) : List AV → List AV → Prop where
  | nil : HVs H Hs rd al [] []
  | cons {v r : AV} {vs rs : List AV} (h : HV H Hs rd al v r) (hs : HVs H Hs rd al vs rs) : HVs H Hs rd al (v :: vs) (r :: rs)

theorem HVs.at_ {Hs : Hp} {rd : List Nat} {al : Bool} {vs rs : List AV} (h : HVs H Hs rd al vs rs) : vs.length = rs.length ∧ ∀ (j : Nat) (r : AV), rs[j]? = some r → ∃ v, vs[j]? = some v ∧ HV H Hs rd al v r := by
  induction h with
  | nil => exact ⟨rfl, fun j r h => by simp at h⟩
  | cons h _ ih =>
    refine ⟨by simp [ih.1], fun j r hj => ?_⟩
    cases j with
    | zero => simp at hj; subst hj; exact ⟨_, rfl, h⟩
    | succ j => simpa using ih.2 j r (by simpa using hj)

theorem HVs.hands {Hs : Hp} {rd : List Nat} {al : Bool} {vs rs : List AV} (h : HVs H Hs rd al vs rs) : Hands H Hs rd al vs rs := fun w S ρ C hh hv => by
  obtain ⟨e1, e2⟩ := h.at_
  refine ⟨by rw [hv.1, e1], fun j r hj => ?_⟩
  obtain ⟨v, g1, g2⟩ := e2 j r hj
  exact g2 w S ρ _ hh (hv.2 j v g1)

def scopedHs (Hs : Hp) : Bool := Hs.all fun x => scopedOb (keysOf Hs) x.2

theorem scopedHs_spec {Hs : Hp} (h : scopedHs Hs = true) : ∀ i ob, get Hs i = some ob → scopedOb (keysOf Hs) ob = true := by
  have key : ∀ (A : Hp) (i : Nat) (ob : Ob), get A i = some ob → (i, ob) ∈ A := by
    intro A
    induction A with
    | nil => intro i ob h; simp [get] at h
    | cons x A ih =>
      obtain ⟨k, v⟩ := x
      intro i ob h
      simp only [get] at h
      split at h
      · rename_i e; subst e; injection h with h; subst h; simp
      · exact List.mem_cons_of_mem _ (ih i ob h)
  intro i ob hi
  exact List.all_eq_true.1 h (i, ob) (key Hs i ob hi)

/-- A call of a function by its contract: the callee only reads the caller's own objects rd, and hands back nothing of theirs. -/
theorem rs_call {f : Nat} {as : List Arg} {vs vs' : List AV} {rd : List Nat} {r : AV} {H' : Hp} (hg : gOK F g = true) (hv : aargs F as = some vs) (hfc : FC P f vs' [] r H' false) (hh : HVs H [] rd false vs vs') (hnew : ∀ i, i ∈ keysOf H' → get H i = none)
    (h : RS P N ml ((d, r) :: F) (H' ++ H) (fun fps => K ((rd, keysOf H') :: fps))) : RS P N (⟨some d, .call f as, g, pre⟩ :: ml) F H K :=
  rs_cons fun ops o hc => ⟨r, rd, keysOf H', H' ++ H, step_call hc (gOK_spec hg) (enters_call hc rfl hv) hfc hh.hands (fun _ => rfl) (fun i ob h => by simp [get] at h) (fun i ob h => by simp [get] at h) (fun i _ => rfl)
    (fun i hi _ => hnew i (mem_keys.2 hi)) (fun i h => absurd rfl h), h⟩

/-- A call of a function that is handed own objects, or whose result may share memory with its arguments. -/
theorem rs_callm {f : Nat} {as : List Arg} {vs vs' : List AV} {r : AV} {Hs H' : Hp} (hg : gOK F g = true) (hv : aargs F as = some vs) (hfc : FC P f vs' Hs r H' true) (hh : HVs H Hs [] true vs vs') (hsub : ∀ i ob, get Hs i = some ob → get H i = some ob) (hsc : scopedHs Hs = true)
    (hnew : ∀ i, get H' i ≠ none → get Hs i = none → get H i = none) (hdom : ∀ i, get Hs i ≠ none → get H' i ≠ none)
    (h : RS P N ml ((d, r) :: F) (H' ++ H) (fun fps => K (([], keysOf H') :: fps))) : RS P N (⟨some d, .call f as, g, pre⟩ :: ml) F H K :=
  rs_cons fun ops o hc => ⟨r, [], keysOf H', H' ++ H, step_call hc (gOK_spec hg) (enters_call hc rfl hv) hfc hh.hands (fun h => (by cases h)) hsub (scopedHs_spec hsc) (fun i h => (by cases h)) hnew hdom, h⟩

theorem rs_callv {fa : Arg} {as : List Arg} {vs cs vs' : List AV} {f : FuncId} {dst : Option Nat} {r : AV} {Hs H' : Hp} (hg : gOK F g = true) (hf : aarg F fa = some (.fn (.func f) cs)) (hent : entered P f = true) (hv : aargs F as = some vs) (hfc : FC P f vs' Hs r H' true)
    (hh : HVs H Hs [] true (vs ++ cs) vs') (hsub : ∀ i ob, get Hs i = some ob → get H i = some ob) (hsc : scopedHs Hs = true) (hnew : ∀ i, get H' i ≠ none → get Hs i = none → get H i = none) (hdom : ∀ i, get Hs i ≠ none → get H' i ≠ none)
    (h : RS P N ml (putF F dst r) (H' ++ H) (fun fps => K (([], keysOf H') :: fps))) : RS P N (⟨dst, .callv fa as, g, pre⟩ :: ml) F H K :=
  rs_cons fun ops o hc => ⟨r, [], keysOf H', H' ++ H, step_call hc (gOK_spec hg) (enters_callv hc rfl hf hent hv) hfc hh.hands (fun h => (by cases h)) hsub (scopedHs_spec hsc) (fun i h => (by cases h)) hnew hdom, h⟩

end
end Go.Proofs.Ytadjdnhnbkcakaa

/-! Loops over a family of states; other names for own objects. -/
namespace Go.Proofs.Ytadjdnhnbkcakaa
open Go.RowKit

section
variable {P : Program} {N : Nat} {Z : List Nat} {Q : Post} {F F0 : Fr} {H H0 : Hp}

/-- A loop whose states are a family. -/
theorem aw_fam {x : MC} {α : Type} (m : α → Nat) (F0 : α → Fr) (H0 : α → Hp) (ok : α → Prop) (a : α) (hok : ok a) (hw : Weak N Z F H (F0 a) (H0 a))
    (round : ∀ a, ok a → AW P N Z x (Then (fun F' H' => ∃ b, ok b ∧ m b < m a ∧ Weak N Z F' H' (F0 b) (H0 b)) Q) (F0 a) (H0 a)) : AW P N Z (.loop x) Q F H := by
  refine aw_weak hw (aw_loop (fun n F H => ∃ a, ok a ∧ n = m a ∧ F = F0 a ∧ H = H0 a) (m a) ⟨a, hok, rfl, rfl, rfl⟩ ?_)
  rintro n F H ⟨a, hok, rfl, rfl, rfl⟩
  refine aw_mono (round a hok) fun e F' H' q => ?_
  cases e with
  | normal =>
    obtain ⟨b, h1, h2, h3⟩ := q
    exact ⟨m b, F0 b, H0 b, h2, h3, b, h1, rfl, rfl, rfl⟩
  | _ => exact q

/-- A piece whose end is known: all that it leaves is in F0, H0. -/
theorem aw_cut {x y : MC} (F0 : Fr) (H0 : Hp) (h : AW P N Z x (Then (fun F' H' => Weak N Z F' H' F0 H0) Q) F H) (h2 : AW P N Z y Q F0 H0) : AW P N Z (.seq x y) Q F H :=
  aw_seq (aw_mono h fun e F' H' q => by
    cases e with
    | normal => exact aw_weak q h2
    | _ => exact q)

inductive KeptHs (H : Hp) (D : List Nat) : Hp → Prop where
  | nil : KeptHs H D []
  | keep {i : Nat} {ob : Ob} {H0 : Hp} (h : get H i = some ob) (hs : scopedOb D ob = true) (r : KeptHs H D H0) : KeptHs H D ((i, ob) :: H0)
  | virt {i e z : Nat} {fl : Bool} {H0 : Hp} (h : get H i = none) (r : KeptHs H D H0) : KeptHs H D ((i, .cells e z [] fl) :: H0)

theorem KeptHs.at_ {D : List Nat} (h : KeptHs H D H0) : ∀ i ob, get H0 i = some ob → (get H i = some ob ∧ scopedOb D ob = true) ∨ (get H i = none ∧ ∃ e z fl, ob = .cells e z [] fl) := by
  induction h with
  | nil => intro i ob h; simp [get] at h
  | keep h hs _ ih =>
    intro k o hk
    simp only [get] at hk
    split at hk
    · rename_i e; subst e; injection hk with hk; subst hk; exact .inl ⟨h, hs⟩
    · exact ih k o hk
  | virt h _ ih =>
    intro k o hk
    simp only [get] at hk
    split at hk
    · rename_i e; subst e; injection hk with hk; subst hk; exact .inr ⟨h, _, _, _, rfl⟩
    · exact ih k o hk

theorem KeptHs.keptH (h : KeptHs H (keysOf H0) H0) : KeptH H H0 true := fun i ob hi => by
  rcases h.at_ i ob hi with ⟨h1, h2⟩ | h
  · exact .inl ⟨h1, h2, .inl rfl⟩
  · exact .inr h

theorem weak_to (hF : KeptF H H0 F F0) (hH : KeptHs H (keysOf H0) H0) (hZ : ∀ i, i ∈ Z → i ∈ keysOf H0) : Weak N Z F H F0 H0 := weak_of hF hH.keptH hZ

/-- Another name for an own object. -/
inductive Ren (i i' : Nat) : AV → AV → Prop where
  | ptr (j o : Nat) : Ren i i' (.ptr i j o) (.ptr i' j o)
  | sl (j n : Nat) : Ren i i' (.sl i j n) (.sl i' j n)
  | sa (j o n : Nat) : Ren i i' (.sa i j o n) (.sa i' j o n)
  | mp : Ren i i' (.mp i) (.mp i')
  | same (v : AV) : Ren i i' v v

inductive RenF (i i' : Nat) (F : Fr) : Fr → Prop where
  | nil : RenF i i' F []
  | cons {t : Nat} {v v' : AV} {F0 : Fr} (h : get F t = some v) (hr : Ren i i' v v') (r : RenF i i' F F0) : RenF i i' F ((t, v') :: F0)

theorem RenF.at_ {i i' : Nat} (h : RenF i i' F F0) : ∀ t v', get F0 t = some v' → ∃ v, get F t = some v ∧ Ren i i' v v' := by
  induction h with
  | nil => intro t v h; simp [get] at h
  | cons h hr _ ih =>
    intro t' u hu
    simp only [get] at hu
    split at hu
    · rename_i e; subst e; injection hu with hu; subst hu; exact ⟨_, h, hr⟩
    · exact ih t' u hu

theorem weak_ren {i i' : Nat} {ob : Ob} (hi : get H i = some ob) (hi' : get H i' = none) (hF : RenF i i' F F0) : Weak N Z F H F0 ((i', ob) :: (i, .dead) :: H) := fun S ρ a w hc => by
  have hne : i ≠ i' := fun e => by rw [e, hi'] at hi; cases hi
  let ρ' : Rho := fun k => if k = i' then ρ i else ρ k
  have hρ : ∀ k x, ρ k = some x → ρ' k = some x := fun k x h => by
    have : k ≠ i' := fun e => by rw [e, hc.hp.dom i' hi'] at h; cases h
    simp [ρ', this, h]
  have hg : ∀ k, get ((i', ob) :: (i, Ob.dead) :: H) k = if i' = k then some ob else if i = k then some .dead else get H k := fun k => rfl
  -- a live row of the new heap, in the old one
  have live : ∀ k o b z c, get ((i', ob) :: (i, Ob.dead) :: H) k = some o → o.live = true → ρ' k = some (some b, z, c) → ∃ k0, (k = i' ∧ k0 = i ∨ k ≠ i' ∧ k ≠ i ∧ k0 = k) ∧ get H k0 = some o ∧ ρ k0 = some (some b, z, c) := fun k o b z c h1 h2 h3 => by
    rw [hg] at h1
    by_cases e : i' = k
    · subst e
      simp at h1; subst h1
      exact ⟨i, .inl ⟨rfl, rfl⟩, hi, by simpa [ρ'] using h3⟩
    · rw [if_neg e] at h1
      by_cases e2 : i = k
      · rw [if_pos e2] at h1; injection h1 with h1; subst h1; simp [Ob.live] at h2
      · rw [if_neg e2] at h1
        exact ⟨k, .inr ⟨fun h => e h.symm, fun h => e2 h.symm, rfl⟩, h1, by simpa [ρ', show ¬ k = i' from fun h => e h.symm] using h3⟩
  refine ⟨S, ρ', ⟨⟨hc.fr.size, fun t v hv => ?_⟩, hc.defers, ⟨hc.hp.hS, fun k hk => ?_, ⟨fun k o _ hk => ?_, fun k j ok oj b z z' c c' _ _ hkj hgk hgj hlk hlj hrk hrj => ?_⟩⟩, fun k hk => ?_⟩, ⟨Keep.refl _ _, fun b hb => hb, fun b hb => .inl hb, fun b hb => ?_, fun k hk => ?_⟩⟩
  · obtain ⟨u, h1, h2⟩ := hF.at_ t v hv
    have h3 := hc.fr.at_ t u h1
    generalize a.tmps.getD t undef = cv at h3 ⊢
    cases h2 with
    | ptr j o =>
      obtain ⟨b, z, cap, q1, q2⟩ := h3.ptr_inv
      rw [q2]
      exact .ptr i' j o b z cap (by simpa [ρ'] using q1)
    | sl j n =>
      rcases h3.sl_inv with ⟨b, z, cap, cap', q1, q2, q3, q4⟩ | ⟨z, q1, q2, q3, q4⟩
      · rw [q4]; exact .sl i' j n b z cap cap' (by simpa [ρ'] using q1) q2 q3
      · subst q2 q3; rw [q4]; exact .sl0 i' z (by simpa [ρ'] using q1)
    | sa j o n =>
      cases h3 with
      | cl h => cases h
      | sa _ _ _ _ b z cap cap' q1 q2 => exact .sa i' j o n b z cap cap' (by simpa [ρ'] using q1) q2
    | mp =>
      cases h3 with
      | cl h => cases h
      | mp _ b z cap q1 => exact .mp i' b z cap (by simpa [ρ'] using q1)
    | same => exact h3.mono (fun _ h => h) (fun _ _ _ h => h) hρ
  · rw [hg] at hk
    split at hk
    · cases hk
    · rename_i e
      split at hk
      · cases hk
      · simpa [ρ', show ¬ k = i' from fun h => e h.symm] using hc.hp.dom k hk
  · have mono : ∀ (o : Ob) (bk : Option Nat) (z cap : Nat), (∀ b, bk = some b → o.live = true → ¬ S b) → OR w S ρ o bk z cap → OR w S ρ' o bk z cap := fun o bk z cap hb h =>
      OR.mono (fun _ h => h) (fun _ _ _ h => h) hρ (fun b e hl => ⟨rfl, hb b e hl⟩) h
    rw [hg] at hk
    by_cases e : i' = k
    · subst e
      simp at hk; subst hk
      obtain ⟨bk, z, cap, q1, q2⟩ := hc.hp.at_.ob i ob trivial hi
      exact ⟨bk, z, cap, by simpa [ρ'] using q1, mono ob bk z cap (fun b e hl => (hc.hp.cells_ne hi hl (by rw [q1, e])).1) q2⟩
    · rw [if_neg e] at hk
      by_cases e2 : i = k
      · rw [if_pos e2] at hk; injection hk with hk; subst hk e2
        obtain ⟨bk, z, cap, q1, q2⟩ := hc.hp.at_.ob i ob trivial hi
        exact ⟨bk, z, cap, by simpa [ρ', hne] using q1, trivial⟩
      · rw [if_neg e2] at hk
        obtain ⟨bk, z, cap, q1, q2⟩ := hc.hp.at_.ob k o trivial hk
        exact ⟨bk, z, cap, by simpa [ρ', show ¬ k = i' from fun h => e h.symm] using q1, mono o bk z cap (fun b e hl => (hc.hp.cells_ne hk hl (by rw [q1, e])).1) q2⟩
  · obtain ⟨k0, a1, a2, a3⟩ := live k ok b z c hgk hlk hrk
    obtain ⟨j0, b1, b2, b3⟩ := live j oj b z' c' hgj hlj hrj
    refine hc.hp.at_.dis k0 j0 ok oj b z z' c c' trivial trivial ?_ a2 b2 hlk hlj a3 b3
    rcases a1 with ⟨rfl, rfl⟩ | ⟨a1, a4, rfl⟩ <;> rcases b1 with ⟨rfl, rfl⟩ | ⟨b1, b4, rfl⟩
    · exact absurd rfl hkj
    · exact fun e => b4 e.symm
    · exact a4
    · exact hkj
  · rw [hg]
    split
    · simp
    · split
      · simp
      · exact hc.z k hk
  · obtain ⟨k, o, z, cap, _, h1, h2, h3⟩ := hb
    obtain ⟨k0, _, a2, a3⟩ := live k o b z cap h1 h2 h3
    exact .inl ⟨k0, o, z, cap, trivial, a2, h2, a3⟩
  · have : k ≠ i' := fun e => hc.z k hk (by rw [e]; exact hi')
    simp [ρ', this]

/-- A weakening in which one own object gets another name. -/
theorem weak_to_ren {i i' : Nat} {ob : Ob} {F1 : Fr} {H1 : Hp} (hF : KeptF H H1 F F1) (hH : KeptHs H (keysOf H1) H1) (hZ : ∀ k, k ∈ Z → k ∈ keysOf H1)
    (hi : get H1 i = some ob) (hi' : get H1 i' = none) (hR : RenF i i' F1 F0) (hF2 : KeptF ((i', ob) :: (i, .dead) :: H1) H0 F0 F0) (hH2 : KeptHs ((i', ob) :: (i, .dead) :: H1) (keysOf H0) H0) (hZ2 : ∀ k, k ∈ Z → k ∈ keysOf H0) : Weak N Z F H F0 H0 :=
  (weak_to hF hH hZ).trans ((weak_ren hi hi' hR).trans (weak_to hF2 hH2 hZ2))

end
end Go.Proofs.Ytadjdnhnbkcakaa

/-! More rules as used: each binary operator, elements of mapped lists, ends of functions and of blocks. -/
namespace Go.Proofs.Ytadjdnhnbkcakaa
open Go.RowKit

section
variable {P : Program} {N : Nat} {Z : List Nat} {Q : Post} {F : Fr} {H : Hp} {ml : List MOper} {K : List Fp → Fr → Hp → Prop} {d : Nat} {g : Option (Nat × Bool)} {pre : List Nat}

theorem in_hit {id : Nat} (h : Q .normal F H) : InBlock id Q (.exit id) F H := by
  simp only [InBlock, if_true]; exact h
theorem in_miss {id i : Nat} (hi : i ≠ id) (h : Q (.exit i) F H) : InBlock id Q (.exit i) F H := by
  simp only [InBlock, if_neg hi]; exact h
theorem in_n {id : Nat} (h : Q .normal F H) : InBlock id Q .normal F H := h
theorem in_r {id : Nat} (h : Q .ret F H) : InBlock id Q .ret F H := h
theorem th_n {next : Fr → Hp → Prop} (h : next F H) : Then next Q .normal F H := h
theorem th_r {next : Fr → Hp → Prop} (h : Q .ret F H) : Then next Q .ret F H := h
theorem th_e {next : Fr → Hp → Prop} {i : Nat} (h : Q (.exit i) F H) : Then next Q (.exit i) F H := h

/-- The end of a function whose result names nothing. -/
theorem ret_pure {rs : List ResultVar} {r : AV} {vs : List AV} {al : Bool} (h : resVs P F H rs = some vs) (hr : resOne vs = r) (hs : scopedV [] r = true) (hn : al = true ∨ noRO r = true) : RetQ P [] rs r [] al .ret F H :=
  ⟨.inr rfl, vs, h, by rw [hr]; exact rc_same hs hn, keptH_nil, fun i hi => by cases hi⟩

section bin
variable {x y : Arg} {k : IntKind} {a b c : Int}
theorem rs_lss (hg : gOK F g = true) (hx : aarg F x = some (.int k a)) (hy : aarg F y = some (.int k b)) (h : RS P N ml ((d, .bool (decide (a < b))) :: F) H (fun fps => K (([], []) :: fps))) : RS P N (⟨some d, .bin .lss x y, g, pre⟩ :: ml) F H K := rs_bin hg hx hy ⟨rfl, h⟩
theorem rs_leq (hg : gOK F g = true) (hx : aarg F x = some (.int k a)) (hy : aarg F y = some (.int k b)) (h : RS P N ml ((d, .bool (decide (a ≤ b))) :: F) H (fun fps => K (([], []) :: fps))) : RS P N (⟨some d, .bin .leq x y, g, pre⟩ :: ml) F H K := rs_bin hg hx hy ⟨rfl, h⟩
theorem rs_gtr (hg : gOK F g = true) (hx : aarg F x = some (.int k a)) (hy : aarg F y = some (.int k b)) (h : RS P N ml ((d, .bool (decide (a > b))) :: F) H (fun fps => K (([], []) :: fps))) : RS P N (⟨some d, .bin .gtr x y, g, pre⟩ :: ml) F H K := rs_bin hg hx hy ⟨rfl, h⟩
theorem rs_geq (hg : gOK F g = true) (hx : aarg F x = some (.int k a)) (hy : aarg F y = some (.int k b)) (h : RS P N ml ((d, .bool (decide (a ≥ b))) :: F) H (fun fps => K (([], []) :: fps))) : RS P N (⟨some d, .bin .geq x y, g, pre⟩ :: ml) F H K := rs_bin hg hx hy ⟨rfl, h⟩
theorem rs_eql (hg : gOK F g = true) (hx : aarg F x = some (.int k a)) (hy : aarg F y = some (.int k b)) (h : RS P N ml ((d, .bool (decide (a = b))) :: F) H (fun fps => K (([], []) :: fps))) : RS P N (⟨some d, .bin .eql x y, g, pre⟩ :: ml) F H K :=
  rs_bin hg hx hy ⟨rfl, by rw [show (a == b) = decide (a = b) from rfl]; exact h⟩
theorem rs_neq (hg : gOK F g = true) (hx : aarg F x = some (.int k a)) (hy : aarg F y = some (.int k b)) (h : RS P N ml ((d, .bool (decide (a ≠ b))) :: F) H (fun fps => K (([], []) :: fps))) : RS P N (⟨some d, .bin .neq x y, g, pre⟩ :: ml) F H K :=
  rs_bin hg hx hy ⟨rfl, by
    rw [show (a != b) = decide (a ≠ b) by by_cases e : a = b <;> simp [e]]; exact h⟩
theorem rs_and (hg : gOK F g = true) (hx : aarg F x = some (.int k a)) (hy : aarg F y = some (.int k b)) (hc : bits .and k a b = c) (h : RS P N ml ((d, .int k c) :: F) H (fun fps => K (([], []) :: fps))) : RS P N (⟨some d, .bin .and x y, g, pre⟩ :: ml) F H K := rs_bin hg hx hy ⟨rfl, by rw [hc]; exact h⟩
theorem rs_or (hg : gOK F g = true) (hx : aarg F x = some (.int k a)) (hy : aarg F y = some (.int k b)) (hc : bits .or k a b = c) (h : RS P N ml ((d, .int k c) :: F) H (fun fps => K (([], []) :: fps))) : RS P N (⟨some d, .bin .or x y, g, pre⟩ :: ml) F H K := rs_bin hg hx hy ⟨rfl, by rw [hc]; exact h⟩
theorem rs_andNot (hg : gOK F g = true) (hx : aarg F x = some (.int k a)) (hy : aarg F y = some (.int k b)) (hc : bits .andNot k a b = c) (h : RS P N ml ((d, .int k c) :: F) H (fun fps => K (([], []) :: fps))) : RS P N (⟨some d, .bin .andNot x y, g, pre⟩ :: ml) F H K := rs_bin hg hx hy ⟨rfl, by rw [hc]; exact h⟩
theorem rs_addw (hg : gOK F g = true) (hx : aarg F x = some (.int k a)) (hy : aarg F y = some (.int k b)) (hc : k.wrap (a + b) = c) (h : RS P N ml ((d, .int k c) :: F) H (fun fps => K (([], []) :: fps))) : RS P N (⟨some d, .bin .add x y, g, pre⟩ :: ml) F H K := rs_bin hg hx hy ⟨rfl, by rw [hc]; exact h⟩
theorem rs_subw (hg : gOK F g = true) (hx : aarg F x = some (.int k a)) (hy : aarg F y = some (.int k b)) (hc : k.wrap (a - b) = c) (h : RS P N ml ((d, .int k c) :: F) H (fun fps => K (([], []) :: fps))) : RS P N (⟨some d, .bin .sub x y, g, pre⟩ :: ml) F H K := rs_bin hg hx hy ⟨rfl, by rw [hc]; exact h⟩
theorem rs_mulw (hg : gOK F g = true) (hx : aarg F x = some (.int k a)) (hy : aarg F y = some (.int k b)) (hc : k.wrap (a * b) = c) (h : RS P N ml ((d, .int k c) :: F) H (fun fps => K (([], []) :: fps))) : RS P N (⟨some d, .bin .mul x y, g, pre⟩ :: ml) F H K := rs_bin hg hx hy ⟨rfl, by rw [hc]; exact h⟩
theorem rs_quow (hg : gOK F g = true) (hx : aarg F x = some (.int k a)) (hy : aarg F y = some (.int k b)) (h0 : b ≠ 0) (hc : k.wrap (a.tdiv b) = c) (h : RS P N ml ((d, .int k c) :: F) H (fun fps => K (([], []) :: fps))) : RS P N (⟨some d, .bin .quo x y, g, pre⟩ :: ml) F H K := rs_bin hg hx hy ⟨rfl, h0, by rw [hc]; exact h⟩
theorem rs_rem (hg : gOK F g = true) (hx : aarg F x = some (.int k a)) (hy : aarg F y = some (.int k b)) (h0 : b ≠ 0) (hc : a.tmod b = c) (h : RS P N ml ((d, .int k c) :: F) H (fun fps => K (([], []) :: fps))) : RS P N (⟨some d, .bin .rem x y, g, pre⟩ :: ml) F H K := rs_bin hg hx hy ⟨rfl, h0, by rw [hc]; exact h⟩
theorem rs_shl {k' : IntKind} (hg : gOK F g = true) (hx : aarg F x = some (.int k a)) (hy : aarg F y = some (.int k' b)) (h0 : 0 ≤ b) (hc : k.wrap (a * 2 ^ min b.toNat k.bits) = c) (h : RS P N ml ((d, .int k c) :: F) H (fun fps => K (([], []) :: fps))) : RS P N (⟨some d, .bin .shl x y, g, pre⟩ :: ml) F H K := rs_bin hg hx hy ⟨h0, by rw [hc]; exact h⟩
theorem rs_shr {k' : IntKind} (hg : gOK F g = true) (hx : aarg F x = some (.int k a)) (hy : aarg F y = some (.int k' b)) (h0 : 0 ≤ b) (hc : a.fdiv (2 ^ min b.toNat k.bits) = c) (h : RS P N ml ((d, .int k c) :: F) H (fun fps => K (([], []) :: fps))) : RS P N (⟨some d, .bin .shr x y, g, pre⟩ :: ml) F H K := rs_bin hg hx hy ⟨h0, by rw [hc]; exact h⟩
end bin

section lists
variable {α : Type} {f : α → List AV} {xs : List α} {z e : Nat} {x i : Arg} {t : Nat} {k : IntKind} {fl : Bool}
theorem rs_len_m (hg : gOK F g = true) (hx : aarg F x = some (.rs z (xs.map f))) (h : RS P N ml ((d, .int .i64 xs.length) :: F) H (fun fps => K (([], []) :: fps))) : RS P N (⟨some d, .len x, g, pre⟩ :: ml) F H K := rs_len_r hg hx (by simp) h
/-- An element of read-only data. -/
theorem rs_ix_m (hg : gOK F g = true) (hx : aarg F x = some (.rs z (xs.map f))) (hi : aarg F i = some (.int k (t : Int))) (ht : t < xs.length)
    (h : RS P N ml ((d, .rp (f xs[t])) :: F) H (fun fps => K (([], []) :: fps))) : RS P N (⟨some d, .ixsl z x i, g, pre⟩ :: ml) F H K := rs_ix_r hg hx hi (by omega) (by simpa using ht) (by simp [ht]) h
/-- The same, by an integer. -/
theorem rs_ix_mi {t : Int} (hg : gOK F g = true) (hx : aarg F x = some (.rs z (xs.map f))) (hi : aarg F i = some (.int k t)) (h0 : 0 ≤ t) (ht : t.toNat < xs.length)
    (h : RS P N ml ((d, .rp (f xs[t.toNat])) :: F) H (fun fps => K (([], []) :: fps))) : RS P N (⟨some d, .ixsl z x i, g, pre⟩ :: ml) F H K := rs_ix_r hg hx hi h0 (by simp; omega) (by simp [ht]) h
/-- An element of an own slice. -/
theorem rs_ix_sm {a n : Nat} (hg : gOK F g = true) (hx : aarg F x = some (.sl a 0 n)) (hi : aarg F i = some (.int k (t : Int))) (ha : get H a = some (.cells e z (xs.map f) fl)) (ht : t < n)
    (h : RS P N ml ((d, .ptr a t 0) :: F) H (fun fps => K (([a], []) :: fps))) : RS P N (⟨some d, .ixsl z x i, g, pre⟩ :: ml) F H K := rs_ix_s hg hx hi ha (by omega) (by omega) (by simpa using h)
theorem rs_ld_m {a n o : Nat} {v : AV} (hg : gOK F g = true) (hx : aarg F x = some (.ptr a t o)) (ha : get H a = some (.cells e z (xs.map f) fl)) (ht : t < xs.length) (hv : (f xs[t])[o]? = some v)
    (h : RS P N ml ((d, v) :: F) H (fun fps => K (([a], []) :: fps))) : RS P N (⟨some d, .ld false n x, g, pre⟩ :: ml) F H K := rs_ld_p hg hx ha (el := f xs[t]) (by simp [ht]) hv h
theorem rs_ld_ma {a n o : Nat} {cs : List AV} (hg : gOK F g = true) (hx : aarg F x = some (.ptr a t o)) (ha : get H a = some (.cells e z (xs.map f) fl)) (ht : t < xs.length) (hn : o + n ≤ (f xs[t]).length) (hc : ((f xs[t]).drop o).take n = cs)
    (h : RS P N ml ((d, .agg cs) :: F) H (fun fps => K (([a], []) :: fps))) : RS P N (⟨some d, .ld true n x, g, pre⟩ :: ml) F H K := rs_ld_pa hg hx ha (el := f xs[t]) (by simp [ht]) hn hc h
theorem rs_st_m {a n o : Nat} {y : Arg} {u : AV} {cs : List AV} {v : α} {fl' : Bool} (hg : gOK F g = true) (hx : aarg F x = some (.ptr a t o)) (hy : aarg F y = some u) (ha : get H a = some (.cells e z (xs.map f) fl)) (ht : t < xs.length) (hc : acells u = some cs) (hn : cs.length = n)
    (ho : o + n ≤ (f xs[t]).length) (he : setAt (f xs[t]) o cs = f v) (hfl : (fl && closedL cs) = fl') (h : RS P N ml F ((a, .cells e z ((xs.set t v).map f) fl') :: H) (fun fps => K (([], [a]) :: fps))) : RS P N (⟨none, .st n x y, g, pre⟩ :: ml) F H K :=
  rs_st hg hx hy ha hc (el := f xs[t]) (by simp [ht]) hn ho (by rw [he, List.map_set]) hfl h
/-- One more element. -/
theorem rs_app_m {by_ a n : Nat} {zero : List AV} {s : Arg} {v : AV} {rd : List Nat} {y : α} {fl' : Bool} (hg : gOK F g = true) (hs : aarg F s = some (.sl a 0 n)) (hx : aarg F x = some v) (ha : get H a = some (.cells e z (xs.map f) fl)) (hn : xs.length = n) (hsrc : srcOf H z v = some (rd, [f y]))
    (hz : zero.length = z) (hd : get H d = none) (hird : a ∉ rd) (hl : (f y).length = z) (hb : (n + 1) * by_ ≤ 140737488355328) (h63 : n + 1 ≤ 9223372036854775807) (hfl : (fl && closedL (f y)) = fl')
    (h : RS P N ml ((d, .sl d 0 (n + 1)) :: F) ((d, .cells e z ((xs ++ [y]).map f) fl') :: (a, .dead) :: H) (fun fps => K ((rd, [a, d]) :: fps))) : RS P N (⟨some d, .app e z by_ zero s x, g, pre⟩ :: ml) F H K :=
  rs_app (fl' := fl') hg hs hx ha hsrc hz hd (by simpa using hn) hird (by simpa using hl) rfl hb h63 (by rw [← hfl]; simp [flatE]) (by simpa using h)
/-- A copy of a whole list behind nothing. -/
theorem rs_app_nm {by_ n : Nat} {zero : List AV} {s : Arg} {v : AV} {rd : List Nat} (hg : gOK F g = true) (hs : aarg F s = some .nils) (hx : aarg F x = some v) (hsrc : srcOf H z v = some (rd, xs.map f)) (hz : zero.length = z) (hd : get H d = none)
    (hl : ∀ y, (f y).length = z) (hn : xs.length = n) (hb : n * by_ ≤ 140737488355328) (h63 : n ≤ 9223372036854775807) (hfl : ∀ y, closedL (f y) = true)
    (h : RS P N ml ((d, .sl d 0 n) :: F) ((d, .cells e z (xs.map f) true) :: H) (fun fps => K ((rd, [d]) :: fps))) : RS P N (⟨some d, .app e z by_ zero s x, g, pre⟩ :: ml) F H K :=
  rs_app_n hg hs hx hsrc hz hd (by simp [hl]) (by simpa using hn) hb h63 (by
    clear h hsrc hn
    induction xs with
    | nil => rfl
    | cons y ys ih => simp [flatE, hfl] at ih ⊢; exact ih) h
end lists

theorem rs_cmp {op : BinOp} {x y : Arg} {k : IntKind} {a b : Int} {p : Prop} (hg : gOK F g = true) (hx : aarg F x = some (.int k a)) (hy : aarg F y = some (.int k b)) (hop : cmpV op a b = some p)
    (h1 : p → RS P N ml ((d, .bool true) :: F) H (fun fps => K (([], []) :: fps))) (h2 : ¬ p → RS P N ml ((d, .bool false) :: F) H (fun fps => K (([], []) :: fps))) : RS P N (⟨some d, .bin op x y, g, pre⟩ :: ml) F H K := by
  by_cases h : p
  · exact rs_cmp_t hg hx hy hop h (h1 h)
  · exact rs_cmp_f hg hx hy hop h (h2 h)

theorem fc_run {f : FuncId} {fn : Func} {mc : MC} {nt : Nat} {rs : List ResultVar} {args : List AV} {H' : Hp} {r : AV} {al : Bool} (hf : P.funcs[f]? = some fn) (hn : fn.ntmps = nt) (hr : fn.results.toList = rs)
    (hm : (match fn.body with | some c => compC P nt c | none => none) = some mc) (hl : args.length ≤ nt) (h : AW P nt (keysOf H) mc (RetQ P (keysOf H) rs r H' al) (params args 0) H) : FC P f args H r H' al := by
  subst hn hr
  split at hm
  · rename_i c hb
    exact fc_of_aw hf hb hm hl h
  · cases hm

/-- Numbers in a list. -/
abbrev ci (n : Int) : List AV := [.int .i64 n]

end
end Go.Proofs.Ytadjdnhnbkcakaa

/-! A contract under other names. -/
namespace Go.Proofs.Ytadjdnhnbkcakaa
open Go.RowKit

/-- The exchange of two names. -/
def swp (a b : Nat) (k : Nat) : Nat := if k = a then b else if k = b then a else k
theorem swp_swp (a b k : Nat) : swp a b (swp a b k) = k := by
  unfold swp
  split
  · rename_i h; subst h
    split
    · rename_i h; exact h
    · simp
  · rename_i h1
    split
    · rename_i h2; subst h2; simp
    · simp

inductive RenV (σ : Nat → Nat) : AV → AV → Prop where
  | closed {v : AV} (h : scopedV [] v = true) : RenV σ v v
  | ptr {i i' j o : Nat} (h : σ i = i') : RenV σ (.ptr i j o) (.ptr i' j o)
  | sl {i i' j n : Nat} (h : σ i = i') : RenV σ (.sl i j n) (.sl i' j n)
  | sa {i i' j o n : Nat} (h : σ i = i') : RenV σ (.sa i j o n) (.sa i' j o n)
  | mp {i i' : Nat} (h : σ i = i') : RenV σ (.mp i) (.mp i')
  | fn {f : Fn} {cs cs' : List AV} (hl : cs.length = cs'.length) (h : ∀ (j : Nat) (v v' : AV), cs[j]? = some v → cs'[j]? = some v' → RenV σ v v') : RenV σ (.fn f cs) (.fn f cs')
  | agg {cs cs' : List AV} (hl : cs.length = cs'.length) (h : ∀ (j : Nat) (v v' : AV), cs[j]? = some v → cs'[j]? = some v' → RenV σ v v') : RenV σ (.agg cs) (.agg cs')
  | tup {cs cs' : List AV} (hl : cs.length = cs'.length) (h : ∀ (j : Nat) (v v' : AV), cs[j]? = some v → cs'[j]? = some v' → RenV σ v v') : RenV σ (.tup cs) (.tup cs')

theorem RenV.symm {σ : Nat → Nat} (hσ : ∀ k, σ (σ k) = k) {v v' : AV} (h : RenV σ v v') : RenV σ v' v := by
  induction h with
  | closed h => exact .closed h
  | ptr h => exact .ptr (by rw [← h, hσ])
  | sl h => exact .sl (by rw [← h, hσ])
  | sa h => exact .sa (by rw [← h, hσ])
  | mp h => exact .mp (by rw [← h, hσ])
  | fn hl _ ih => exact .fn hl.symm fun j v v' h1 h2 => ih j v' v h2 h1
  | agg hl _ ih => exact .agg hl.symm fun j v v' h1 h2 => ih j v' v h2 h1
  | tup hl _ ih => exact .tup hl.symm fun j v v' h1 h2 => ih j v' v h2 h1

theorem VR.ren {w : World} {S : Nat → Prop} {ρ ρ' : Rho} {σ : Nat → Nat} (hρ : ∀ i, ρ' (σ i) = ρ i) {v v' : AV} (h : RenV σ v v') : ∀ {c : Value}, VR w S ρ v c → VR w S ρ' v' c := by
  have key : ∀ {cs cs' : List AV} {C : Array Value}, cs.length = cs'.length → (∀ (j : Nat) (v v' : AV), cs[j]? = some v → cs'[j]? = some v' → ∀ {c : Value}, VR w S ρ v c → VR w S ρ' v' c) →
      (∀ j v, cs[j]? = some v → VR w S ρ v (C.getD j undef)) → ∀ j v', cs'[j]? = some v' → VR w S ρ' v' (C.getD j undef) := fun {cs cs' C} hl ih h j v' hj => by
    have hlt : j < cs.length := by rw [hl]; exact (List.getElem?_eq_some_iff.1 hj).1
    exact ih j _ v' (List.getElem?_eq_getElem hlt) hj (h j _ (List.getElem?_eq_getElem hlt))
  induction h with
  | closed h => intro c hv; exact hv.scope h (fun i hi => by cases hi)
  | ptr h =>
    rename_i i i' j o
    intro c hv
    obtain ⟨b, z, cap, q1, rfl⟩ := hv.ptr_inv
    exact .ptr i' j o b z cap (by rw [← h, hρ]; exact q1)
  | sl h =>
    rename_i i i' j n
    intro c hv
    rcases hv.sl_inv with ⟨b, z, cap, cap', q1, q2, q3, rfl⟩ | ⟨z, q1, rfl, rfl, rfl⟩
    · exact .sl i' j n b z cap cap' (by rw [← h, hρ]; exact q1) q2 q3
    · exact .sl0 i' z (by rw [← h, hρ]; exact q1)
  | sa h =>
    rename_i i i' j o n
    intro c hv
    cases hv with
    | cl h => cases h
    | sa _ _ _ _ b z cap cap' q1 q2 => exact .sa i' j o n b z cap cap' (by rw [← h, hρ]; exact q1) q2
  | mp h =>
    rename_i i i'
    intro c hv
    cases hv with
    | cl h => cases h
    | mp _ b z cap q1 => exact .mp i' b z cap (by rw [← h, hρ]; exact q1)
  | fn hl _ ih =>
    intro c hv
    obtain ⟨C, rfl, hn, h2⟩ := hv.fn_inv
    exact .fn _ _ C (by rw [hn, hl]) (key hl ih h2)
  | agg hl _ ih =>
    intro c hv
    obtain ⟨C, rfl, hn, h1, h2⟩ := hv.agg_inv
    refine .agg _ C (by rw [hn, hl]) (fun j v' hj => ?_) (key hl ih h2)
    rename_i cs cs' _
    have hlt : j < cs.length := by rw [hl]; exact (List.getElem?_eq_some_iff.1 hj).1
    exact h1 j _ (List.getElem?_eq_getElem hlt)
  | tup hl _ ih =>
    intro c hv
    obtain ⟨C, rfl, hn, h2⟩ := hv.tup_inv
    exact .tup _ C (by rw [hn, hl]) (key hl ih h2)

inductive RenOb (σ : Nat → Nat) : Ob → Ob → Prop where
  | dead : RenOb σ .dead .dead
  | mset {ks : List Int} : RenOb σ (.mset ks) (.mset ks)
  | flat {e z : Nat} {els : List (List AV)} : RenOb σ (.cells e z els true) (.cells e z els true)
  | cells {e z : Nat} {els els' : List (List AV)} {fl : Bool} (hl : els.length = els'.length)
      (h : ∀ (j : Nat) (el el' : List AV), els[j]? = some el → els'[j]? = some el' → el.length = el'.length ∧ ∀ (o : Nat) (v v' : AV), el[o]? = some v → el'[o]? = some v' → RenV σ v v') : RenOb σ (.cells e z els false) (.cells e z els' false)

theorem RenOb.symm {σ : Nat → Nat} (hσ : ∀ k, σ (σ k) = k) {o o' : Ob} (h : RenOb σ o o') : RenOb σ o' o := by
  cases h with
  | dead => exact .dead
  | mset => exact .mset
  | flat => exact .flat
  | cells hl h =>
    refine .cells (fl := false) hl.symm fun j el el' h1 h2 => ?_
    obtain ⟨g1, g2⟩ := h j el' el h2 h1
    exact ⟨g1.symm, fun o v v' k1 k2 => (g2 o v' v k2 k1).symm hσ⟩

theorem RenOb.live {σ : Nat → Nat} {o o' : Ob} (h : RenOb σ o o') : o'.live = o.live := by cases h <;> rfl

theorem OR.ren {w : World} {S : Nat → Prop} {ρ ρ' : Rho} {σ : Nat → Nat} (hρ : ∀ i, ρ' (σ i) = ρ i) {o o' : Ob} (hr : RenOb σ o o') {bk : Option Nat} {z cap : Nat} (h : OR w S ρ o bk z cap) : OR w S ρ' o' bk z cap := by
  cases hr with
  | dead => trivial
  | mset => exact h
  | flat =>
    obtain ⟨hz, h⟩ := h
    refine ⟨hz, ?_⟩
    cases bk with
    | none => exact h
    | some b =>
      obtain ⟨h0, hm, C, hC, h1, h2, h3, h4⟩ := h
      exact ⟨h0, hm, C, hC, h1, h2, h3, fun j el o v he hv => by
        obtain ⟨q1, q2⟩ := h4 j el o v he hv
        rw [if_pos rfl] at q2 ⊢
        exact ⟨q1, q2⟩⟩
  | cells hl hc =>
    rename_i e z0 els els' _
    obtain ⟨hz, h⟩ := h
    refine ⟨hz, ?_⟩
    cases bk with
    | none =>
      obtain ⟨rfl, h2⟩ := h
      exact ⟨List.length_eq_zero_iff.1 hl.symm, h2⟩
    | some b =>
      obtain ⟨h0, hm, C, hC, h1, h2, h3, h4⟩ := h
      have bk_ : ∀ (j : Nat) (el' : List AV), els'[j]? = some el' → ∃ el, els[j]? = some el ∧ el.length = el'.length ∧ ∀ (o : Nat) (v v' : AV), el[o]? = some v → el'[o]? = some v' → RenV σ v v' := fun j el' hj => by
        have hlt : j < els.length := by rw [hl]; exact (List.getElem?_eq_some_iff.1 hj).1
        exact ⟨_, List.getElem?_eq_getElem hlt, hc j _ el' (List.getElem?_eq_getElem hlt) hj⟩
      refine ⟨h0, hm, C, hC, h1, by rw [← hl]; exact h2, fun j el' hj => ?_, fun j el' o v' he hv => ?_⟩
      · obtain ⟨el, g1, g2, _⟩ := bk_ j el' hj
        rw [← g2]; exact h3 j el g1
      · obtain ⟨el, g1, g2, g3⟩ := bk_ j el' he
        have hlt : o < el.length := by rw [g2]; exact (List.getElem?_eq_some_iff.1 hv).1
        obtain ⟨q1, q2⟩ := h4 j el o _ g1 (List.getElem?_eq_getElem hlt)
        rw [if_neg (by simp)] at q2 ⊢
        exact ⟨q1, VR.ren hρ (g3 o _ v' (List.getElem?_eq_getElem hlt) hv) q2⟩

inductive RenH (σ : Nat → Nat) : Hp → Hp → Prop where
  | nil : RenH σ [] []
  | cons {i i' : Nat} {o o' : Ob} {H H' : Hp} (h : σ i = i') (ho : RenOb σ o o') (r : RenH σ H H') : RenH σ ((i, o) :: H) ((i', o') :: H')

theorem RenH.symm {σ : Nat → Nat} (hσ : ∀ k, σ (σ k) = k) {H H' : Hp} (h : RenH σ H H') : RenH σ H' H := by
  induction h with
  | nil => exact .nil
  | cons h ho _ ih => exact .cons (by rw [← h, hσ]) (ho.symm hσ) ih

theorem RenH.at_ {σ : Nat → Nat} (hσ : ∀ k, σ (σ k) = k) {H H' : Hp} (h : RenH σ H H') : ∀ k, (get H k = none ∧ get H' (σ k) = none) ∨ ∃ o o', get H k = some o ∧ get H' (σ k) = some o' ∧ RenOb σ o o' := by
  induction h with
  | nil => intro k; exact .inl ⟨rfl, rfl⟩
  | cons h ho _ ih =>
    rename_i i i' o o' H H' _
    intro k
    subst h
    simp only [get]
    by_cases e : i = k
    · subst e; rw [if_pos rfl, if_pos rfl]; exact .inr ⟨o, o', rfl, rfl, ho⟩
    · rw [if_neg e, if_neg (fun e2 => e (by rw [← hσ i, e2, hσ]))]; exact ih k

theorem HRF.ren {w : World} {S : Nat → Prop} {ρ ρ' : Rho} {σ : Nat → Nat} (hσ : ∀ k, σ (σ k) = k) (hρ : ∀ i, ρ' (σ i) = ρ i) {H H' : Hp} (hr : RenH σ H H') (h : HRF w S ρ (get H)) : HRF w S ρ' (get H') := by
  have hρ' : ∀ i, ρ' i = ρ (σ i) := fun i => by rw [← hρ (σ i), hσ]
  have back : ∀ k o', get H' k = some o' → ∃ o, get H (σ k) = some o ∧ RenOb σ o o' := fun k o' hk => by
    rcases hr.at_ hσ (σ k) with ⟨_, h2⟩ | ⟨o, o1, h1, h2, h3⟩
    · rw [hσ, hk] at h2; cases h2
    · rw [hσ, hk] at h2; injection h2 with h2; subst h2; exact ⟨o, h1, h3⟩
  refine ⟨h.hS, fun i hi => ?_, ⟨fun i o' _ hi => ?_, fun i j oi oj b z z' c c' _ _ hne hi hj hli hlj hri hrj => ?_⟩⟩
  · rw [hρ']
    apply h.dom
    rcases hr.at_ hσ (σ i) with ⟨h1, _⟩ | ⟨o, o1, _, h2, _⟩
    · exact h1
    · rw [hσ, hi] at h2; cases h2
  · obtain ⟨o, g1, g2⟩ := back i o' hi
    obtain ⟨bk, z, cap, q1, q2⟩ := h.at_.ob _ o trivial g1
    exact ⟨bk, z, cap, by rw [hρ']; exact q1, q2.ren hρ g2⟩
  · obtain ⟨a, g1, g2⟩ := back i oi hi
    obtain ⟨b', g3, g4⟩ := back j oj hj
    refine h.at_.dis (σ i) (σ j) a b' b z z' c c' trivial trivial (fun e => hne (by rw [← hσ i, e, hσ])) g1 g3 (by rw [← g2.live]; exact hli) (by rw [← g4.live]; exact hlj) (by rw [← hρ']; exact hri) (by rw [← hρ']; exact hrj)

theorem LiveF.ren {ρ ρ' : Rho} {σ : Nat → Nat} (hσ : ∀ k, σ (σ k) = k) (hρ : ∀ i, ρ' (σ i) = ρ i) {H H' : Hp} (hr : RenH σ H H') {b : Nat} (h : LiveF ρ (get H) All b) : LiveF ρ' (get H') All b := by
  obtain ⟨i, o, z, cap, _, h1, h2, h3⟩ := h
  rcases hr.at_ hσ i with ⟨g1, _⟩ | ⟨o1, o', g1, g2, g3⟩
  · rw [h1] at g1; cases g1
  · rw [h1] at g1; injection g1 with g1; subst g1
    exact ⟨σ i, o', z, cap, trivial, g2, by rw [g3.live]; exact h2, by rw [hρ]; exact h3⟩

inductive RenVs (σ : Nat → Nat) : List AV → List AV → Prop where
  | nil : RenVs σ [] []
  | cons {v v' : AV} {l l' : List AV} (h : RenV σ v v') (r : RenVs σ l l') : RenVs σ (v :: l) (v' :: l')

theorem RenVs.at_ {σ : Nat → Nat} {l l' : List AV} (h : RenVs σ l l') : l.length = l'.length ∧ ∀ (j : Nat) (v v' : AV), l[j]? = some v → l'[j]? = some v' → RenV σ v v' := by
  induction h with
  | nil => exact ⟨rfl, fun j v v' h => by simp at h⟩
  | cons h _ ih =>
    refine ⟨by simp [ih.1], fun j v v' h1 h2 => ?_⟩
    cases j with
    | zero => simp at h1 h2; subst h1 h2; exact h
    | succ j => exact ih.2 j v v' (by simpa using h1) (by simpa using h2)

theorem fc_ren {P : Program} {f : FuncId} {args args' : List AV} {H H1 H' H1' : Hp} {r r1 : AV} {al : Bool} (σ : Nat → Nat) (hσ : ∀ k, σ (σ k) = k) (h : FC P f args H r H' al) (ha : RenVs σ args args') (hH : RenH σ H H1) (hr : RenV σ r r1) (hH' : RenH σ H' H1') : FC P f args' H1 r1 H1' al := by
  intro w S ρ cargs hh hv
  have e1 : ∀ i, (fun k => ρ (σ k)) (σ i) = ρ i := fun i => by simp [hσ]
  obtain ⟨hl, hat⟩ := ha.at_
  refine Calls.mono (h w S (fun k => ρ (σ k)) cargs (hh.ren hσ e1 (hH.symm hσ)) ⟨by rw [hv.1, hl], fun j v hj => ?_⟩) fun e w' ⟨cv, S', ρ', q1, q2, q3, q4, q5, q6, q7, q8⟩ => ?_
  · have hlt : j < args'.length := by rw [← hl]; exact (List.getElem?_eq_some_iff.1 hj).1
    exact VR.ren (σ := σ) e1 ((hat j v _ hj (List.getElem?_eq_getElem hlt)).symm hσ) (hv.2 j _ (List.getElem?_eq_getElem hlt))
  · have e2 : ∀ i, (fun k => ρ' (σ k)) (σ i) = ρ' i := fun i => by simp [hσ]
    have e3 : ∀ i, ρ' (σ i) = (fun k => ρ' (σ k)) i := fun i => rfl
    have e4 : ∀ i, ρ (σ i) = (fun k => ρ (σ k)) i := fun i => rfl
    have back : ∀ i, get H1 i ≠ none → get H (σ i) ≠ none := fun i hi h0 => by
      rcases hH.at_ hσ (σ i) with ⟨_, g2⟩ | ⟨o, o', g1, _, _⟩
      · rw [hσ] at g2; exact hi g2
      · rw [h0] at g1; cases g1
    refine ⟨cv, S', fun k => ρ' (σ k), q1, VR.ren (σ := σ) e2 hr q2, q3.ren hσ e2 hH', q4.mono fun b hb => hb.ren hσ e4 hH, q5, fun b hb => ?_, fun i hi => ?_, fun i hi => ?_⟩
    · exact (q6 b (hb.ren hσ e3 (hH'.symm hσ))).imp (fun hb => hb.ren hσ e4 hH) id
    · show ρ' (σ i) = ρ i
      rw [q7 (σ i) (back i hi)]
      show ρ (σ (σ i)) = ρ i
      rw [hσ]
    · have := q8 (σ i) (back i hi)
      rcases hH'.at_ hσ (σ i) with ⟨g1, _⟩ | ⟨o, o', _, g2, _⟩
      · exact absurd g1 this
      · rw [hσ] at g2; rw [g2]; simp

end Go.Proofs.Ytadjdnhnbkcakaa

/-! Calls and ends with side conditions that compute. -/
namespace Go.Proofs.Ytadjdnhnbkcakaa
open Go.RowKit

section
variable {P : Program} {N : Nat} {Z : List Nat} {Q : Post} {F F0 : Fr} {H H0 : Hp} {ml : List MOper} {K : List Fp → Fr → Hp → Prop} {d : Nat} {g : Option (Nat × Bool)} {pre : List Nat}

theorem rc_int {k : IntKind} {a b : Int} (h : a = b) {al : Bool} : RC H H0 al (.int k a) (.int k b) := by
  subst h; exact rc_same rfl (.inr rfl)
theorem rc_eq {a b : AV} (h : a = b) (hs : scopedV (keysOf H0) b = true) : RC H H0 true a b := by
  subst h; exact rc_same hs (.inl rfl)

theorem rs_nil_n {sl neg : Bool} {x : Arg} {v : AV} (hg : gOK F g = true) (hx : aarg F x = some v) (hv : (sl = true ∧ v = .nils) ∨ (sl = false ∧ v = .nilp)) (h : RS P N ml ((d, .bool (!neg)) :: F) H (fun fps => K (([], []) :: fps))) : RS P N (⟨some d, .isnil sl neg x, g, pre⟩ :: ml) F H K :=
  rs_op hg (by
    simp only [mev, hx]
    rcases hv with ⟨rfl, rfl⟩ | ⟨rfl, rfl⟩ <;> exact h)
theorem rs_nil_f {neg : Bool} {x : Arg} {v : AV} (hg : gOK F g = true) (hx : aarg F x = some v) (hv : (∃ z e els, v = .rs z (e :: els)) ∨ ∃ i j n, v = .sl i j (n + 1)) (h : RS P N ml ((d, .bool neg) :: F) H (fun fps => K (([], []) :: fps))) : RS P N (⟨some d, .isnil true neg x, g, pre⟩ :: ml) F H K :=
  rs_op hg (by
    simp only [mev, hx]
    rcases hv with ⟨z, e, els, rfl⟩ | ⟨i, j, n, rfl⟩ <;> exact h)
theorem rs_nil_any {neg : Bool} {x : Arg} {v : AV} (hg : gOK F g = true) (hx : aarg F x = some v) (hv : (∃ z, v = .rs z []) ∨ ∃ i j, v = .sl i j 0) (h : RS P N ml ((d, .anyb) :: F) H (fun fps => K (([], []) :: fps))) : RS P N (⟨some d, .isnil true neg x, g, pre⟩ :: ml) F H K :=
  rs_op hg (by
    simp only [mev, hx]
    rcases hv with ⟨z, rfl⟩ | ⟨i, j, rfl⟩ <;> exact h)
theorem rs_nil_p {neg : Bool} {x : Arg} {v : AV} (hg : gOK F g = true) (hx : aarg F x = some v) (hv : (∃ cs, v = .rp cs) ∨ ∃ i j n, v = .ptr i j n) (h : RS P N ml ((d, .bool neg) :: F) H (fun fps => K (([], []) :: fps))) : RS P N (⟨some d, .isnil false neg x, g, pre⟩ :: ml) F H K :=
  rs_op hg (by
    simp only [mev, hx]
    rcases hv with ⟨cs, rfl⟩ | ⟨i, j, n, rfl⟩ <;> exact h)
theorem rs_beq {neg : Bool} {x y : Arg} {a b : Bool} (hg : gOK F g = true) (hx : aarg F x = some (.bool a)) (hy : aarg F y = some (.bool b)) (h : RS P N ml ((d, .bool (neg != (a == b))) :: F) H (fun fps => K (([], []) :: fps))) : RS P N (⟨some d, .beq neg x y, g, pre⟩ :: ml) F H K :=
  rs_op hg (by simp only [mev, hx, hy]; exact h)
theorem rs_mkmap (hg : gOK F g = true) (hd : get H d = none) (h : RS P N ml ((d, .mp d) :: F) ((d, .mset []) :: H) (fun fps => K (([], [d]) :: fps))) : RS P N (⟨some d, .mkmap, g, pre⟩ :: ml) F H K :=
  rs_op hg (by simp only [mev]; exact ⟨hd, h⟩)
theorem rs_mapadd {m k v : Arg} {i : Nat} {n : Int} {u : AV} {ks : List Int} (hg : gOK F g = true) (hm : aarg F m = some (.mp i)) (hk : aarg F k = some (.int .i64 n)) (hv : aarg F v = some u) (hi : get H i = some (.mset ks))
    (h : RS P N ml F ((i, .mset (addK ks n)) :: H) (fun fps => K (([], [i]) :: fps))) : RS P N (⟨none, .mapadd m k v, g, pre⟩ :: ml) F H K :=
  rs_op hg (by simp only [mev, hm, hk, hv, hi]; exact h)
theorem rs_lenm {x : Arg} {i : Nat} {ks : List Int} (hg : gOK F g = true) (hx : aarg F x = some (.mp i)) (hi : get H i = some (.mset ks)) (h : RS P N ml ((d, .int .i64 ks.length) :: F) H (fun fps => K (([i], []) :: fps))) : RS P N (⟨some d, .lenm x, g, pre⟩ :: ml) F H K :=
  rs_op hg (by simp only [mev, hx, hi]; exact h)

theorem flat_map {α : Type} {f : α → List AV} (hf : ∀ x, closedL (f x) = true) : ∀ xs : List α, flatE (xs.map f) = true
  | [] => rfl
  | x :: xs => by
    have := flat_map hf xs
    simp only [List.map_cons, flatE, hf, Bool.true_and]
    exact this

section
variable {α : Type} {f : α → List AV} {ys xs : List α} {z e : Nat} {x : Arg}
/-- A list behind an empty one. -/
theorem rs_app_e {by_ a n : Nat} {zero : List AV} {s : Arg} {v : AV} {rd : List Nat} (hg : gOK F g = true) (hs : aarg F s = some (.sl a 0 0)) (hx : aarg F x = some v) (ha : get H a = some (.cells e z [] true)) (hsrc : srcOf H z v = some (rd, ys.map f))
    (hz : zero.length = z) (hd : get H d = none) (hird : a ∉ rd) (hl : ∀ y, (f y).length = z) (hn : ys.length = n) (hb : n * by_ ≤ 140737488355328) (h63 : n ≤ 9223372036854775807) (hfl : ∀ y, closedL (f y) = true)
    (h : RS P N ml ((d, .sl d 0 n) :: F) ((d, .cells e z (ys.map f) true) :: (a, .dead) :: H) (fun fps => K ((rd, [a, d]) :: fps))) : RS P N (⟨some d, .app e z by_ zero s x, g, pre⟩ :: ml) F H K :=
  rs_app (m := n) (fl' := true) hg hs hx ha hsrc hz hd rfl hird (by simp [hl]) (by simpa using hn) (by simpa using hb) (by simpa using h63) (by rw [flat_map hfl]; rfl) (by simpa using h)
/-- A list behind another. -/
theorem rs_app_mm {by_ a n m : Nat} {zero : List AV} {s : Arg} {v : AV} {rd : List Nat} (hg : gOK F g = true) (hs : aarg F s = some (.sl a 0 n)) (hx : aarg F x = some v) (ha : get H a = some (.cells e z (xs.map f) true)) (hsrc : srcOf H z v = some (rd, ys.map f))
    (hz : zero.length = z) (hd : get H d = none) (hird : a ∉ rd) (hl : ∀ y, (f y).length = z) (hn : xs.length = n) (hm : ys.length = m) (hb : (n + m) * by_ ≤ 140737488355328) (h63 : n + m ≤ 9223372036854775807) (hfl : ∀ y, closedL (f y) = true)
    (h : RS P N ml ((d, .sl d 0 (n + m)) :: F) ((d, .cells e z ((xs ++ ys).map f) true) :: (a, .dead) :: H) (fun fps => K ((rd, [a, d]) :: fps))) : RS P N (⟨some d, .app e z by_ zero s x, g, pre⟩ :: ml) F H K :=
  rs_app (m := m) (fl' := true) hg hs hx ha hsrc hz hd (by simpa using hn) hird (by simp [hl]) (by simpa using hm) hb h63 (by rw [flat_map hfl]; rfl) (by simpa using h)
end

theorem VR.anyb_inv {w : World} {S : Nat → Prop} {ρ : Rho} {c : Value} (h : VR w S ρ .anyb c) : ∃ b, c = .bool b := by
  cases h with
  | cl h => cases h with
    | anyb b => exact ⟨b, rfl⟩

/-- A condition of which nothing is known. -/
theorem aw_condany {x : Arg} {y z : MC} (ht : aarg F x = some .anyb) (h1 : AW P N Z y Q F H) (h2 : AW P N Z z Q F H) : AW P N Z (.cond x y z) Q F H := fun code hc S ρ a w hcf => by
  cases code <;> simp [compC] at hc
  case cond cx cy cz =>
    split at hc
    · rename_i x' y' z' hx hy hz
      simp at hc
      obtain ⟨rfl, rfl, rfl⟩ := hc
      obtain ⟨t, e⟩ := (carg_ok hx (ts := x'.slots) (fun t _ v hv => hcf.fr.at_ t v hv) (fun _ h => h) ht).anyb_inv
      exact wp_cond_split e (fun _ => h1 cy hy S ρ a w hcf) fun _ => h2 cz hz S ρ a w hcf
    · cases hc
  all_goals (repeat' split at hc) <;> cases hc

/-- The rows of Hs lie in H. -/
inductive SubH (H : Hp) : Hp → Prop where
  | nil : SubH H []
  | cons {i : Nat} {ob : Ob} {Hs : Hp} (h : get H i = some ob) (r : SubH H Hs) : SubH H ((i, ob) :: Hs)
theorem SubH.at_ {Hs : Hp} (h : SubH H Hs) : ∀ i ob, get Hs i = some ob → get H i = some ob := by
  induction h with
  | nil => intro i ob h; simp [get] at h
  | cons h _ ih =>
    intro k o hk
    simp only [get] at hk
    split at hk
    · rename_i e; subst e; injection hk with hk; subst hk; exact h
    · exact ih k o hk

def newOk (H Hs H' : Hp) : Bool := (keysOf H').all fun i => (keysOf Hs).contains i || (get H i).isNone
def domOk (Hs H' : Hp) : Bool := (keysOf Hs).all fun i => (keysOf H').contains i

theorem newOk_spec {Hs H' : Hp} (h : newOk H Hs H' = true) : ∀ i, get H' i ≠ none → get Hs i = none → get H i = none := fun i h1 h2 => by
  have := List.all_eq_true.1 h i (mem_keys.2 h1)
  rcases Bool.or_eq_true _ _ ▸ this with h | h
  · exact absurd h2 (mem_keys.1 (by simpa using h))
  · simpa using h
theorem domOk_spec {Hs H' : Hp} (h : domOk Hs H' = true) : ∀ i, get Hs i ≠ none → get H' i ≠ none := fun i h1 => by
  have := List.all_eq_true.1 h i (mem_keys.2 h1)
  exact mem_keys.1 (by simpa using this)

theorem rs_callo {f : Nat} {as : List Arg} {vs vs' : List AV} {r : AV} (Hs : Hp) {H' : Hp} (hg : gOK F g = true) (hv : aargs F as = some vs) (hfc : FC P f vs' Hs r H' true) (hh : HVs H Hs [] true vs vs') (hsub : SubH H Hs) (hsc : scopedHs Hs = true)
    (hnew : newOk H Hs H' = true) (hdom : domOk Hs H' = true) (h : RS P N ml ((d, r) :: F) (H' ++ H) (fun fps => K (([], keysOf H') :: fps))) : RS P N (⟨some d, .call f as, g, pre⟩ :: ml) F H K :=
  rs_callm hg hv hfc hh hsub.at_ hsc (newOk_spec hnew) (domOk_spec hdom) h

theorem rs_calln {f : Nat} {as : List Arg} {vs vs' : List AV} (rd : List Nat) {r : AV} {H' : Hp} (hg : gOK F g = true) (hv : aargs F as = some vs) (hfc : FC P f vs' [] r H' false) (hh : HVs H [] rd false vs vs') (hnew : newOk H [] H' = true)
    (h : RS P N ml ((d, r) :: F) (H' ++ H) (fun fps => K ((rd, keysOf H') :: fps))) : RS P N (⟨some d, .call f as, g, pre⟩ :: ml) F H K :=
  rs_call hg hv hfc hh (fun i hi => newOk_spec hnew i (mem_keys.1 hi) rfl) h

/-- The names of Z in the result. -/
inductive ZL (H H' : Hp) : List Nat → Prop where
  | nil : ZL H H' []
  | cons {i : Nat} {Z : List Nat} {ob ob2 : Ob} (h : get H' i = some ob) (hl : ob.live = true) (h2 : get H i = some ob2) (r : ZL H H' Z) : ZL H H' (i :: Z)
theorem ZL.at_ {H' : Hp} (h : ZL H H' Z) : ∀ i, i ∈ Z → ∃ ob, get H' i = some ob ∧ ob.live = true ∧ get H i ≠ none := by
  induction h with
  | nil => intro i h; cases h
  | cons h hl h2 _ ih =>
    intro i hi
    rcases List.mem_cons.1 hi with rfl | hi
    · exact ⟨_, h, hl, by rw [h2]; simp⟩
    · exact ih i hi

theorem ret_own {rs : List ResultVar} {r : AV} {vs : List AV} {H' : Hp} (h : resVs P F H rs = some vs) (hr : RC H H' true (resOne vs) r) (hk : KeptHs H (keysOf H') H') (hz : ZL H H' Z) : RetQ P Z rs r H' true .ret F H :=
  ⟨.inr rfl, vs, h, hr, hk.keptH, hz.at_⟩

/-- No read-only part in a row. -/
def noROE : List (List AV) → Bool
  | [] => true
  | e :: r => noROL e && noROE r
theorem noROE_mem : ∀ {els : List (List AV)}, noROE els = true → ∀ el ∈ els, ∀ v ∈ el, noRO v = true
  | e :: r, h, el, he, v, hv => by
    simp only [noROE, Bool.and_eq_true] at h
    rcases List.mem_cons.1 he with rfl | he
    · exact noROL_mem h.1 hv
    · exact noROE_mem h.2 el he v hv
theorem noROE_map {α : Type} {f : α → List AV} (hf : ∀ x, noROL (f x) = true) : ∀ xs : List α, noROE (xs.map f) = true
  | [] => rfl
  | x :: xs => by simp only [List.map_cons, noROE, hf, noROE_map hf xs, Bool.and_self]

inductive KeptHr (H : Hp) (D : List Nat) : Hp → Prop where
  | nil : KeptHr H D []
  | keep {i e z : Nat} {els : List (List AV)} {fl : Bool} {H0 : Hp} (h : get H i = some (.cells e z els fl)) (hs : scopedOb D (.cells e z els fl) = true) (hn : noROE els = true) (r : KeptHr H D H0) : KeptHr H D ((i, .cells e z els fl) :: H0)
  | virt {i e z : Nat} {fl : Bool} {H0 : Hp} (h : get H i = none) (r : KeptHr H D H0) : KeptHr H D ((i, .cells e z [] fl) :: H0)
theorem KeptHr.at_ {D : List Nat} (h : KeptHr H D H0) {al : Bool} : ∀ i ob, get H0 i = some ob → (get H i = some ob ∧ scopedOb D ob = true ∧ (al = true ∨ ∀ e z els fl, ob = .cells e z els fl → ∀ el ∈ els, ∀ v ∈ el, noRO v = true)) ∨ (get H i = none ∧ ∃ e z fl, ob = .cells e z [] fl) := by
  induction h with
  | nil => intro i ob h; simp [get] at h
  | keep h hs hn _ ih =>
    intro k o hk
    simp only [get] at hk
    split at hk
    · rename_i e; subst e; injection hk with hk; subst hk
      refine .inl ⟨h, hs, .inr fun e z els fl he => ?_⟩
      injection he with e1 e2 e3 e4; subst e3
      exact noROE_mem hn
    · exact ih k o hk
  | virt h _ ih =>
    intro k o hk
    simp only [get] at hk
    split at hk
    · rename_i e; subst e; injection hk with hk; subst hk; exact .inr ⟨h, _, _, _, rfl⟩
    · exact ih k o hk

/-- The end of a function that hands out new objects and nothing of its arguments. -/
theorem ret_new {rs : List ResultVar} {r : AV} {vs : List AV} {H' : Hp} {al : Bool} (h : resVs P F H rs = some vs) (hr : RC H H' al (resOne vs) r) (hk : KeptHr H (keysOf H') H') : RetQ P [] rs r H' al .ret F H :=
  ⟨.inr rfl, vs, h, hr, fun i ob hi => hk.at_ i ob hi, fun i hi => by cases hi⟩

/-- The end of a function that hands out a new list under a name of its own. -/
theorem weak_rc {F1 : Fr} {H1 : Hp} {rs : List ResultVar} {r : AV} {H' : Hp} {al : Bool} {e : Exit} (hw : Weak N Z F H F1 H1) (h : RetQ P Z rs r H' al e F1 H1) : WQ N Z (RetQ P Z rs r H' al) e F H := ⟨F1, H1, hw, h⟩

end
end Go.Proofs.Ytadjdnhnbkcakaa

/-! A contract with a weaker result: own objects frozen or given up. -/
namespace Go.Proofs.Ytadjdnhnbkcakaa
open Go.RowKit

theorem fc_weak {P : Program} {f : FuncId} {args : List AV} {H H' H0 : Hp} {r r0 : AV} {al : Bool} (h : FC P f args H r H' al) (hr : RC H' H0 al r r0) (hk : KeptH H' H0 al) (hz : ∀ i, get H i ≠ none → ∃ ob, get H0 i = some ob ∧ ob.live = true ∧ get H' i ≠ none) : FC P f args H r0 H0 al := by
  intro w S ρ cargs hH hargs
  refine Calls.mono (h w S ρ cargs hH hargs) fun e w' ⟨cv, S', ρ', e1, e2, e3, e4, e5, e6, e7, e8⟩ => ?_
  obtain ⟨k1, k2⟩ := hrf_weak hk e3
  have hrho : ∀ i, get H i ≠ none → rhoW H' H0 ρ' i = ρ i := fun i hi => by
    obtain ⟨ob, z1, _, z3⟩ := hz i hi
    rw [rhoW_kept (by rw [z1]; simp) z3]
    exact e7 i hi
  have own0 : ∀ b, LiveF ρ (get H) All b → ¬ Sw H' H0 al S' ρ' b := fun b ⟨i, ob, z, cap, _, hgi, hl, hr⟩ hs => by
    have hne : get H i ≠ none := by rw [hgi]; simp
    obtain ⟨ob', z1, z2, z3⟩ := hz i hne
    exact (k1.cells_ne z1 z2 (by rw [hrho i hne]; exact hr)).1 hs
  refine ⟨cv, _, _, e1, hr S' ρ' w' cv e3 e2, k1, e4, fun b hb => ?_, fun b hb => ?_, hrho, fun i hi => ?_⟩
  · have hn0 : ¬ LiveF ρ (get H) All b := fun h => own0 b h hb
    rcases hb with ⟨ha, hb⟩ | ⟨i, ob, z, cap, _, hg, hl, hr⟩
    · rcases e5 b hb with ⟨h1, h2⟩ | h1
      · exact .inl ⟨ha, h2⟩
      · exact .inr h1
    · rcases e6 b ⟨i, ob, z, cap, trivial, hg, hl, hr⟩ with h1 | h1
      · exact absurd h1 hn0
      · exact .inr h1
  · obtain ⟨i, ob, z, cap, _, hg, hl, hr⟩ := k2 b hb
    exact e6 b ⟨i, ob, z, cap, trivial, hg, hl, hr⟩
  · obtain ⟨ob, z1, _, _⟩ := hz i hi
    rw [z1]; simp

/-- All that is new is frozen. -/
theorem fc_frozen {P : Program} {f : FuncId} {args : List AV} {H' : Hp} {r r0 : AV} {al : Bool} (h : FC P f args [] r H' al) (hr : RC H' [] al r r0) : FC P f args [] r0 [] al :=
  fc_weak h hr keptH_nil fun i hi => absurd rfl hi

/-- A whole list, frozen. -/
theorem rc_frz {α : Type} {f : α → List AV} {xs : List α} {H H0 : Hp} {al : Bool} {i e z n : Nat} (h : get H i = some (.cells e z (xs.map f) true)) (h0 : get H0 i = none) (hn : xs.length = n) (hf : ∀ x, noROL (f x) = true) : RC H H0 al (.sl i 0 n) (.rs z (xs.map f)) := by
  have := rc_freeze (al := al) (j := 0) (n := n) h h0 (by simp; omega) (.inr fun el he v hv => noROE_mem (noROE_map hf xs) el he v hv)
  rwa [List.drop_zero, List.take_of_length_le (by simp; omega)] at this

end Go.Proofs.Ytadjdnhnbkcakaa

/-! From a reading of the row's arguments to abstract values: the shapes of types, and the values that a reading tells. No program in sight. -/
namespace Go.Proofs.Ytadjdnhnbkcakaa
open Go.RowKit Go.WideShapes Go.ChangeShapes Go.ChangeAt

inductive Sh where
  | int (k : IntKind)
  | bool
  | str
  | sl (z : Nat) (s : Sh)
  | st (ss : List Sh)
  | arr (n : Nat) (s : Sh)

mutual
/-- The type is of the shape. -/
def okSh (P : Program) : Sh → TypeId → Bool
  | .int k, t => match P.underlying t with | some (.int k') => decide (k' = k) && decide (P.cellsOf t = 1) | _ => false
  | .bool, t => match P.underlying t with | some .bool => decide (P.cellsOf t = 1) | _ => false
  | .str, t => match P.underlying t with | some .string => decide (P.cellsOf t = 1) | _ => false
  | .sl z s, t => match P.underlying t with | some (.slice e) => decide (P.cellsOf t = 1) && decide (P.cellsOf e = z) && decide (z ≠ 0) && decide (P.bytesOf e ≠ 0) && okSh P s e | _ => false
  | .st ss, t => match P.underlying t with | some (.struct fs) => okFs P ss fs.toList 0 (P.cellsOf t) | _ => false
  | .arr n s, t => match P.underlying t with | some (.array n' e) => decide (n' = n) && decide (P.cellsOf t = n * P.cellsOf e) && okSh P s e | _ => false
def okFs (P : Program) : List Sh → List Field → Nat → Nat → Bool
  | [], [], o, n => decide (o = n)
  | s :: ss, f :: fs, o, n => decide (f.offset = o) && okSh P s f.type && okFs P ss fs (o + P.cellsOf f.type) n
  | _, _, _, _ => false
end

section
variable {H : Type}

mutual
/-- The cells of a datum of a shape, as abstract values. -/
def avD : Sh → DataW H → List AV
  | .int k, .lit (.int _ n) => [.int k n]
  | .bool, .lit (.bool b) => [.bool b]
  | .str, .lit (.string l) => [.str ⟨l.toArray⟩]
  | .sl z _, .nil => [.rs z []]
  | .sl z s, .slice els _ => [.rs z (els.map (avD s))]
  | .st ss, .agg ps => avFs ss ps
  | .arr _ s, .agg ps => ps.flatMap (avD s)
  | _, _ => []
def avFs : List Sh → List (DataW H) → List AV
  | s :: ss, d :: ds => avD s d ++ avFs ss ds
  | _, _ => []
end

mutual
/-- The datum is of the shape, its numbers in range. -/
def Gd : Sh → DataW H → Prop
  | .int k, d => ∃ n, d = .lit (.int k n) ∧ (Lit.int k n).wf = true
  | .bool, d => ∃ b, d = .lit (.bool b)
  | .str, d => ∃ l, d = .lit (.string l) ∧ l.length ≤ 140737488351232
  | .sl _ s, d => d = .nil ∨ ∃ els sp, d = .slice els sp ∧ els.length ≤ 140737488351232 ∧ ∀ x, x ∈ els → Gd s x
  | .st ss, d => ∃ ps, d = .agg ps ∧ GdFs ss ps
  | .arr n s, d => ∃ ps, d = .agg ps ∧ ps.length = n ∧ ∀ x, x ∈ ps → Gd s x
def GdFs : List Sh → List (DataW H) → Prop
  | [], ds => ds = []
  | s :: ss, ds => ∃ d r, ds = d :: r ∧ Gd s d ∧ GdFs ss r
end

/-- All blocks that are there. -/
abbrev Sall (w : World) : Nat → Prop := fun b => b < w.heap.size

/-- Cells and their abstract values. -/
def Vs (w : World) (l : List AV) (cs : List Value) : Prop :=
  l.length = cs.length ∧ ∀ (j : Nat) (v : AV), l[j]? = some v → ∃ c, cs[j]? = some c ∧ c.oneCell' = true ∧ CR w (Sall w) v c

theorem Vs.nil {w : World} : Vs w [] [] := ⟨rfl, fun j v h => by simp at h⟩
theorem Vs.one {w : World} {v : AV} {c : Value} (h : c.oneCell' = true) (hc : CR w (Sall w) v c) : Vs w [v] [c] := ⟨rfl, fun j u hu => by
  cases j with
  | zero => simp at hu; subst hu; exact ⟨c, rfl, h, hc⟩
  | succ j => simp at hu⟩
theorem Vs.append {w : World} {a b : List AV} {x y : List Value} (h : Vs w a x) (k : Vs w b y) : Vs w (a ++ b) (x ++ y) := by
  refine ⟨by simp [h.1, k.1], fun j v hv => ?_⟩
  by_cases hj : j < a.length
  · rw [List.getElem?_append_left hj] at hv
    rw [List.getElem?_append_left (by rw [← h.1]; exact hj)]
    exact h.2 j v hv
  · rw [List.getElem?_append_right (by omega)] at hv
    rw [List.getElem?_append_right (by rw [← h.1]; omega), ← h.1]
    exact k.2 _ v hv

section
variable {enc : TypeId × Value → H} {P : Program} {w : World} {base : Nat} {spare : Nat → Bool} {held : Bool}

theorem fields_av {n : Nat} (IH : ∀ (s : Sh) (t : TypeId) (cs : List Value) (x : DataW H × List MemPlace), okSh P s t = true → (∀ n ∈ DataW.weights P t x.1, n ≤ 140737488351232) → DataW.trod enc P w base spare held n t cs = some x → Gd s x.1 ∧ cs.length = P.cellsOf t ∧ Vs w (avD s x.1) cs)
    (cs : List Value) : ∀ (ss : List Sh) (fs : List Field) (o : Nat) (xs : List (DataW H × List MemPlace)), okFs P ss fs o cs.length = true → xs.length = fs.length → o ≤ cs.length → (∀ n ∈ DataW.weightsEach P (fs.map (·.type)) (xs.map (·.1)), n ≤ 140737488351232) →
      (∀ (i : Nat) (f : Field), fs[i]? = some f → DataW.trod enc P w base spare held n f.type ((cs.drop f.offset).take (P.cellsOf f.type)) = xs[i]?) →
      GdFs ss (xs.map (·.1)) ∧ Vs w (avFs ss (xs.map (·.1))) (cs.drop o)
  | [], [], o, xs, h, hl, _, _, _ => by
    have : xs = [] := List.length_eq_zero_iff.1 (by simpa using hl)
    subst this
    simp only [okFs, decide_eq_true_eq] at h
    rw [h, List.drop_length]
    exact ⟨rfl, Vs.nil⟩
  | [], _ :: _, _, _, h, _, _, _, _ => by simp [okFs] at h
  | _ :: _, [], _, _, h, _, _, _, _ => by simp [okFs] at h
  | s :: ss, f :: fs, o, xs, h, hl, ho, hw, hx => by
    simp only [okFs, Bool.and_eq_true, decide_eq_true_eq] at h
    obtain ⟨⟨h1, h2⟩, h3⟩ := h
    match xs, hl, hw with
    | x :: xs, hl, hw =>
      simp only [List.map_cons, DataW.weightsEach, List.mem_append] at hw
      have e0 := hx 0 f rfl
      simp only [List.getElem?_cons_zero] at e0
      obtain ⟨g1, g2, g3⟩ := IH s f.type _ x h2 (fun n hn => hw n (.inl hn)) e0
      rw [h1] at g2 g3
      have g4 : P.cellsOf f.type ≤ cs.length - o := by
        rw [List.length_take, List.length_drop] at g2; omega
      obtain ⟨q1, q2⟩ := fields_av IH cs ss fs (o + P.cellsOf f.type) xs h3 (by simpa using hl) (by omega) (fun n hn => hw n (.inr hn)) fun i f' hf => by
        have := hx (i + 1) f' (by simpa using hf)
        simpa using this
      refine ⟨⟨_, _, rfl, g1, q1⟩, ?_⟩
      have e : cs.drop o = (cs.drop o).take (P.cellsOf f.type) ++ cs.drop (o + P.cellsOf f.type) := by
        rw [← List.drop_drop, List.take_append_drop]
      rw [e]
      exact g3.append q2

theorem elems_av {m : Nat} {s : Sh} {e : TypeId} (IH : ∀ (cs : List Value) (x : DataW H × List MemPlace), (∀ n ∈ DataW.weights P e x.1, n ≤ 140737488351232) → DataW.trod enc P w base spare held m e cs = some x → Gd s x.1 ∧ cs.length = P.cellsOf e ∧ Vs w (avD s x.1) cs) :
    ∀ (xs : List (DataW H × List MemPlace)) (cs : List Value), cs.length = xs.length * P.cellsOf e → (∀ n ∈ DataW.weightsAll P e (xs.map (·.1)), n ≤ 140737488351232) →
      (∀ (i : Nat), i < xs.length → DataW.trod enc P w base spare held m e ((cs.drop (i * P.cellsOf e)).take (P.cellsOf e)) = xs[i]?) →
      (∀ d, d ∈ xs.map (·.1) → Gd s d) ∧ Vs w ((xs.map (·.1)).flatMap (avD s)) cs
  | [], cs, hl, _, _ => by
    have : cs = [] := List.length_eq_zero_iff.1 (by simpa using hl)
    subst this
    exact ⟨fun d h => by simp at h, Vs.nil⟩
  | x :: xs, cs, hl, hw, hx => by
    simp only [List.map_cons, DataW.weightsAll, List.mem_append] at hw
    have e0 := hx 0 (by simp)
    simp only [Nat.zero_mul, List.drop_zero, List.getElem?_cons_zero] at e0
    obtain ⟨g1, g2, g3⟩ := IH _ x (fun n hn => hw n (.inl hn)) e0
    have hl' : (cs.drop (P.cellsOf e)).length = xs.length * P.cellsOf e := by
      rw [List.length_drop, hl, List.length_cons, Nat.add_mul]; omega
    obtain ⟨q1, q2⟩ := elems_av IH xs (cs.drop (P.cellsOf e)) hl' (fun n hn => hw n (.inr hn)) fun i hi => by
      have := hx (i + 1) (by simpa using hi)
      rw [List.getElem?_cons_succ] at this
      rw [← this, List.drop_drop, Nat.add_mul, Nat.one_mul, Nat.add_comm]
    refine ⟨fun d hd => ?_, ?_⟩
    · simp only [List.map_cons, List.mem_cons] at hd
      rcases hd with rfl | hd
      · exact g1
      · exact q1 d hd
    · rw [← List.take_append_drop (P.cellsOf e) cs]
      simp only [List.map_cons, List.flatMap_cons]
      exact g3.append q2

theorem weights_all {e : TypeId} : ∀ {l : List (DataW H)} {y : DataW H}, y ∈ l → ∀ n ∈ DataW.weights P e y, n ∈ DataW.weightsAll P e l
  | a :: l, y, hy, n, hn => by
    simp only [DataW.weightsAll, List.mem_append]
    rcases List.mem_cons.1 hy with rfl | hy
    · exact .inl hn
    · exact .inr (weights_all hy n hn)

theorem cell_spot {a : Addr} {v : Value} (h : w.cell? a = some v) : a.spot = none := by
  unfold World.cell? at h
  split at h
  · split at h
    · cases h
    · rename_i h'; simpa using h'
  · cases h

/-- What a reading tells of the cells. -/
theorem trod_av : ∀ (fuel : Nat) (s : Sh) (t : TypeId) (cs : List Value) (x : DataW H × List MemPlace), okSh P s t = true → (∀ n ∈ DataW.weights P t x.1, n ≤ 140737488351232) → DataW.trod enc P w base spare held fuel t cs = some x → Gd s x.1 ∧ cs.length = P.cellsOf t ∧ Vs w (avD s x.1) cs := by
  intro fuel
  induction fuel with
  | zero => intro s t cs x _ _ h; simp [DataW.trod] at h
  | succ n ih =>
    intro s t cs x hs hw h
    cases s with
    | int k =>
      simp only [okSh] at hs
      split at hs
      · rename_i k' hk
        simp only [Bool.and_eq_true, decide_eq_true_eq] at hs
        obtain ⟨rfl, h1⟩ := hs
        obtain ⟨m, rfl, rfl, hwf⟩ := DataW.trod_int hk h
        refine ⟨by simp only [Gd]; exact ⟨m, rfl, hwf⟩, by simp [h1], ?_⟩
        simp only [avD]
        exact Vs.one rfl (.int _ _)
      · cases hs
    | bool =>
      simp only [okSh] at hs
      split at hs
      · rename_i hk
        simp only [decide_eq_true_eq] at hs
        obtain ⟨b, rfl, rfl⟩ := DataW.trod_bool hk h
        refine ⟨by simp only [Gd]; exact ⟨b, rfl⟩, by simp [hs], ?_⟩
        simp only [avD]
        exact Vs.one rfl (.bool _)
      · cases hs
    | str =>
      simp only [okSh] at hs
      split at hs
      · rename_i hk
        simp only [decide_eq_true_eq] at hs
        obtain ⟨b, rfl, rfl, hb⟩ := DataW.trod_string hk h
        refine ⟨by simp only [Gd]; exact ⟨_, rfl, hw _ (by simp [DataW.weights])⟩, by simp [hs], ?_⟩
        simp only [avD]
        exact Vs.one rfl (.str _)
      · cases hs
    | sl z s =>
      simp only [okSh] at hs
      split at hs
      · rename_i e hk
        simp only [Bool.and_eq_true, decide_eq_true_eq] at hs
        obtain ⟨⟨⟨⟨h1, h2⟩, h3⟩, h5⟩, h4⟩ := hs
        rcases DataW.trod_slice hk h with ⟨rfl, rfl⟩ | ⟨a, len, cap, elems, rest, m, hm, rfl, rfl, hb, hl, hmx, hlen, hel, _, _⟩
        · refine ⟨by simp only [Gd]; exact .inl trivial, by simp [h1], ?_⟩
          simp only [avD]
          exact Vs.one rfl (.rs0 _ _ _)
        · obtain rfl : n = m := by omega
          simp only [DataW.weights, hk, List.mem_cons, List.mem_append] at hw
          have hwe : ∀ y ∈ elems.map (·.1), ∀ n ∈ DataW.weights P e y, n ≤ 140737488351232 := fun y hy n hn => hw n (.inr (.inl (weights_all hy n hn)))
          have hsz : len ≤ 140737488351232 := by
            have h1 := hw _ (.inl rfl)
            simp only [List.length_map, hlen] at h1
            have h2 : 1 ≤ P.bytesOf e := by omega
            have h3 := Nat.mul_le_mul_left (len + rest.length) h2
            omega
          have each : ∀ i y, elems[i]? = some y → ∃ cs', w.cells? base (a.add (i * z)) z = some cs' ∧ Gd s y.1 ∧ cs'.length = z ∧ Vs w (avD s y.1) cs' := by
            intro i y hy
            have hi : i < len := by rw [← hlen]; exact (List.getElem?_eq_some_iff.1 hy).1
            have := hel i hi
            rw [hy, h2, Option.bind_eq_some_iff] at this
            obtain ⟨cs', q1, q2⟩ := this
            obtain ⟨r1, r2, r3⟩ := ih s e cs' y h4 (hwe _ (List.mem_map.2 ⟨y, List.mem_of_getElem? hy, rfl⟩)) q2
            exact ⟨cs', q1, r1, r2.trans h2, r3⟩
          refine ⟨?_, by simp [h1], ?_⟩
          · simp only [Gd]
            refine .inr ⟨_, _, rfl, by simpa [hlen] using hsz, fun d hd => ?_⟩
            obtain ⟨y, hy, rfl⟩ := List.mem_map.1 hd
            obtain ⟨i, hi⟩ := List.getElem?_of_mem hy
            obtain ⟨_, _, g, _⟩ := each i y hi
            exact g
          · simp only [avD]
            refine Vs.one rfl ?_
            by_cases h0 : len = 0
            · have : elems = [] := List.length_eq_zero_iff.1 (by omega)
              subst this
              subst h0
              exact .rs0 _ _ _
            · have hy0 : elems[0]? = some elems[0] := by simp
              obtain ⟨cs0, c1, _, c2, _⟩ := each 0 _ hy0
              obtain ⟨_, _, c3⟩ := World.cells?_some c1
              have c4 := c3 0 (by omega)
              have hc0 : cs0[0]? = some cs0[0] := by simp
              rw [hc0] at c4
              have e0 : (a.add (0 * z)).add 0 = a := by simp [Addr.add]
              rw [e0] at c4
              have hsp := cell_spot c4
              have hbk := World.block_lt_of_cell? w _ c4
              obtain ⟨ab, ao, as⟩ := a
              simp only at hsp
              subst hsp
              have hadd : ∀ j o, ((⟨ab, ao, none⟩ : Addr).add (j * z)).add o = ⟨ab, ao + j * z + o, none⟩ := by
                intro j o
                unfold Addr.add
                split <;> split <;> simp_all [Nat.add_assoc]
              have main : ∀ (j : Nat) (el : List AV) (o : Nat) (v : AV), ((elems.map (·.1)).map (avD s))[j]? = some el → el[o]? = some v →
                  ∃ c, w.cell? ⟨ab, ao + j * z + o, none⟩ = some c ∧ c.oneCell' = true ∧ CR w (Sall w) v c := by
                intro j el o v he hv
                simp only [List.map_map, List.getElem?_map, Option.map_eq_some_iff] at he
                obtain ⟨y, hy, rfl⟩ := he
                obtain ⟨cs', q1, _, q2, q3⟩ := each j y hy
                simp only [Function.comp] at hv
                obtain ⟨c, r1, r2, r3⟩ := q3.2 o v hv
                have ho : o < z := by rw [← q2]; exact (List.getElem?_eq_some_iff.1 r1).1
                obtain ⟨_, _, p3⟩ := World.cells?_some q1
                have p4 := p3 o ho
                rw [r1, hadd] at p4
                exact ⟨c, p4, r2, r3⟩
              have hln : ((elems.map (·.1)).map (avD s)).length = len := by simp [hlen]
              have key := CR.rs (w := w) (S := Sall w) z ((elems.map (·.1)).map (avD s)) ab ao cap (fun j o => (w.cell? ⟨ab, ao + j * z + o, none⟩).getD undef) hbk (by rw [hln]; exact hl)
                (fun j el o v he hv => by obtain ⟨c, r1, r2, _⟩ := main j el o v he hv; simp only [r1, Option.getD_some]; exact ⟨trivial, r2⟩)
                (fun j el o v he hv => by obtain ⟨c, r1, _, r2⟩ := main j el o v he hv; simp only [r1, Option.getD_some]; exact r2)
              rw [hln] at key
              exact key
      · cases hs
    | st ss =>
      simp only [okSh] at hs
      split at hs
      · rename_i fs hk
        obtain ⟨xs, m, hm, rfl, hl, hlen, hf⟩ := DataW.trod_struct hk h
        obtain rfl : n = m := by omega
        rw [← hl] at hs
        obtain ⟨q1, q2⟩ := fields_av ih cs ss fs.toList 0 xs hs (by simpa using hlen) (Nat.zero_le _) (by simp only [DataW.weights, hk] at hw; exact hw) fun i f hi => hf i f (by simpa using hi)
        refine ⟨by simp only [Gd]; exact ⟨_, rfl, q1⟩, hl, ?_⟩
        simp only [avD]
        simpa using q2
      · cases hs
    | arr k s =>
      simp only [okSh] at hs
      split at hs
      · rename_i k' e hk
        simp only [Bool.and_eq_true, decide_eq_true_eq] at hs
        obtain ⟨⟨rfl, h1⟩, h2⟩ := hs
        obtain ⟨xs, m, hm, rfl, hl, hlen, hf⟩ := DataW.trod_array hk h
        obtain rfl : n = m := by omega
        obtain ⟨q1, q2⟩ := elems_av (fun cs x hn hx => ih s e cs x h2 hn hx) xs cs (by rw [hl, h1, hlen]) (by simp only [DataW.weights, hk] at hw; exact hw) fun i hi => hf i (by omega)
        refine ⟨by simp only [Gd]; exact ⟨_, rfl, by simp [hlen], q1⟩, hl, ?_⟩
        simp only [avD]
        exact q2
      · cases hs

/-- The abstract value of an argument. -/
def argA (s : Sh) (d : DataW H) : AV := match s with
  | .st _ => .agg (avD s d)
  | .arr _ _ => .agg (avD s d)
  | _ => (avD s d).headD .und

theorem one_cells {v : Value} {t : TypeId} {r : Go.Reach} (hu : ∀ fs n e, P.underlying t ≠ some (.struct fs) ∧ P.underlying t ≠ some (.array n e)) (h : Value.okWide P w r base t v) : v.cells = #[v] := by
  unfold Value.okWide at h
  split at h
  · rename_i fs hh; exact absurd hh (hu _ 0 0).1
  · rename_i hh; exact absurd hh (hu #[] _ _).2
  · cases v <;> first | rfl | (unfold Cell.okWide Cell.ok at h; split at h <;> simp_all)

theorem arg_av {s : Sh} {t : TypeId} {r : Go.Reach} {base' : Nat} {v : Value} {d : DataW H} {ps : List MemPlace} (hs : okSh P s t = true) (hv : Value.okWide P w r base' t v) (hw : ∀ n ∈ DataW.weights P t d, n ≤ 140737488351232) (h : DataW.Trod enc P w base spare held t v d ps) :
    Gd s d ∧ CR w (Sall w) (argA s d) v := by
  obtain ⟨fuel, hf⟩ := h
  obtain ⟨g1, g2, g3⟩ := trod_av fuel s t _ (d, ps) hs hw hf
  refine ⟨g1, ?_⟩
  have hone : (∀ fs n e, P.underlying t ≠ some (.struct fs) ∧ P.underlying t ≠ some (.array n e)) → CR w (Sall w) ((avD s d).headD .und) v := fun hu => by
    have e := one_cells (w := w) (r := r) hu hv
    rw [e] at g3
    obtain ⟨l1, l2⟩ := g3
    match hl : avD s d, l1 with
    | [u], _ =>
      obtain ⟨c, hc, _, q⟩ := l2 0 u (by simp [hl])
      simp at hc; subst hc
      exact q
  have hagg : (∃ cs, v = .agg cs) → CR w (Sall w) (.agg (avD s d)) v := fun ⟨cs, e⟩ => by
    subst e
    refine .agg _ cs (by simpa [Value.cells] using g3.1.symm) (fun j u hu => ?_) (fun j u hu => ?_)
    · obtain ⟨c, hc, q, _⟩ := g3.2 j u hu
      have : cs[j]? = some c := by simpa [Value.cells] using hc
      simp [this, q]
    · obtain ⟨c, hc, _, q⟩ := g3.2 j u hu
      have : cs[j]? = some c := by simpa [Value.cells] using hc
      simp [this, q]
  cases s with
  | st ss =>
    simp only [okSh] at hs
    split at hs
    · rename_i fs hk
      refine hagg ?_
      unfold Value.okWide at hv
      rw [hk] at hv
      obtain ⟨cs, e, _⟩ := hv
      exact ⟨cs, e⟩
    · cases hs
  | arr n s =>
    simp only [okSh] at hs
    split at hs
    · rename_i hk
      refine hagg ?_
      unfold Value.okWide at hv
      rw [hk] at hv
      obtain ⟨cs, e, _⟩ := hv
      exact ⟨cs, e⟩
    · cases hs
  | _ =>
    refine hone fun fs n e => ?_
    simp only [okSh] at hs
    split at hs
    · rename_i hk; rw [hk]; exact ⟨by simp, by simp⟩
    · cases hs

end

/-! ### What is read, as plain data -/

theorem rd_int {k : IntKind} (d : DataW H) (h : Gd (.int k) d) : ∃ n : Int, (Lit.int k n).wf = true ∧ avD (.int k) d = [.int k n] := by
  simp only [Gd] at h
  obtain ⟨n, rfl, hw⟩ := h
  exact ⟨n, hw, by simp only [avD]⟩

theorem rd_bool (d : DataW H) (h : Gd .bool d) : ∃ b : Bool, avD .bool d = [.bool b] := by
  simp only [Gd] at h
  obtain ⟨n, rfl⟩ := h
  exact ⟨n, by simp only [avD]⟩

theorem rd_list {α : Type} {s : Sh} (R : α → Prop) (f : α → List AV) (hs : ∀ d : DataW H, Gd s d → ∃ x, R x ∧ avD s d = f x) : ∀ els : List (DataW H), (∀ x, x ∈ els → Gd s x) →
    ∃ xs : List α, xs.length = els.length ∧ (∀ x ∈ xs, R x) ∧ els.map (avD s) = xs.map f
  | [], _ => ⟨[], rfl, fun x h => by simp at h, rfl⟩
  | d :: els, h => by
    obtain ⟨x, h1, h2⟩ := hs d (h d (by simp))
    obtain ⟨xs, q1, q2, q3⟩ := rd_list R f hs els fun x hx => h x (by simp [hx])
    exact ⟨x :: xs, by simp [q1], fun y hy => by
      rcases List.mem_cons.1 hy with rfl | hy
      · exact h1
      · exact q2 y hy, by simp [h2, q3]⟩

theorem rd_sl {α : Type} {z : Nat} {s : Sh} (R : α → Prop) (f : α → List AV) (hs : ∀ d : DataW H, Gd s d → ∃ x, R x ∧ avD s d = f x) (d : DataW H) (h : Gd (.sl z s) d) :
    ∃ xs : List α, (xs.length ≤ 140737488351232 ∧ ∀ x ∈ xs, R x) ∧ avD (.sl z s) d = [.rs z (xs.map f)] := by
  simp only [Gd] at h
  rcases h with rfl | ⟨els, sp, rfl, hl, hg⟩
  · exact ⟨[], ⟨by simp, fun x h => by simp at h⟩, by simp [avD]⟩
  · obtain ⟨xs, q1, q2, q3⟩ := rd_list R f hs els hg
    exact ⟨xs, ⟨by omega, q2⟩, by simp only [avD]; rw [q3]⟩

theorem rd_arr {α : Type} {n : Nat} {s : Sh} (R : α → Prop) (f : α → List AV) (hs : ∀ d : DataW H, Gd s d → ∃ x, R x ∧ avD s d = f x) (d : DataW H) (h : Gd (.arr n s) d) :
    ∃ xs : List α, (xs.length = n ∧ ∀ x ∈ xs, R x) ∧ avD (.arr n s) d = xs.flatMap f := by
  simp only [Gd] at h
  obtain ⟨ps, rfl, hl, hg⟩ := h
  obtain ⟨xs, q1, q2, q3⟩ := rd_list R f hs ps hg
  exact ⟨xs, ⟨by omega, q2⟩, by simp only [avD]; rw [List.flatMap_def, q3, List.flatMap_def]⟩

theorem gd_len : ∀ (ss : List Sh) (ds : List (DataW H)), GdFs ss ds → ds.length = ss.length
  | [], ds, h => by simp only [GdFs] at h; subst h; rfl
  | s :: ss, ds, h => by
    simp only [GdFs] at h
    obtain ⟨d, r, rfl, _, h2⟩ := h
    simp [gd_len ss r h2]

theorem rd_nil (ds : List (DataW H)) (h : GdFs [] ds) : avFs [] ds = [] := by simp only [GdFs] at h; subst h; simp [avFs]
theorem rd_cons {s : Sh} {ss : List Sh} (ds : List (DataW H)) (h : GdFs (s :: ss) ds) : ∃ (d : DataW H) (r : List (DataW H)), Gd s d ∧ GdFs ss r ∧ avFs (s :: ss) ds = avD s d ++ avFs ss r := by
  simp only [GdFs] at h
  obtain ⟨d, r, rfl, h1, h2⟩ := h
  exact ⟨d, r, h1, h2, by simp only [avFs]⟩
theorem rd_st {ss : List Sh} (d : DataW H) (h : Gd (.st ss) d) : ∃ ps : List (DataW H), GdFs ss ps ∧ avD (.st ss) d = avFs ss ps := by
  simp only [Gd] at h
  obtain ⟨ps, rfl, h1⟩ := h
  exact ⟨ps, h1, by simp only [avD]⟩

end

/-- The arguments of a call, as abstract values. -/
def argAs {H : Type} : List Sh → List (DataW H) → List AV
  | s :: ss, d :: ds => argA s d :: argAs ss ds
  | _, _ => []

def okShs (P : Program) : List Sh → List TypeId → Bool
  | [], [] => true
  | s :: ss, t :: ts => okSh P s t && decide (P.readableRec t = true) && decide (t < P.types.size) && okShs P ss ts
  | _, _ => false

theorem hrf_start (w : World) : HRF w (Sall w) (fun _ => none) (get []) :=
  ⟨fun _ h => h, fun _ _ => rfl, ⟨fun i o _ h => by simp [get] at h, fun i j oi oj b z z' c c' _ _ _ h => by simp [get] at h⟩⟩

/-- A law's contract: what it says to the row. -/
theorem fc_row {P : Program} {f : FuncId} {args : List AV} {r : AV} {al : Bool} {c : Value} (h : FC P f args [] r [] al) {w : World} {cargs : Array Value} (ha : VRs w (Sall w) (fun _ => none) args cargs) (hr : ∀ (w' : World) S ρ cv, VR w' S ρ r cv → cv = c) :
    Calls P f cargs w fun e w' => e = .returned c ∧ Below w.heap.size w w' :=
  (h w (Sall w) (fun _ => none) cargs (hrf_start w) ha).mono fun e w' ⟨cv, S', ρ', he, hv, _, hk, _⟩ => by
    have hc := hr w' S' ρ' cv hv
    subst hc
    refine ⟨he, hk.os, hk.tape, hk.output, hk.size, fun k hlt => hk.block k hlt ?_⟩
    rintro ⟨i, ob, z, cap, _, h0, _⟩
    simp [get] at h0

section
variable {H : Type} {enc : TypeId × Value → H} {P : Program} {W : World} {base : Nat} {r : Go.Reach}

theorem args_av : ∀ (ss : List Sh) (ts : List TypeId) (vs : List Value) (ds : List (DataW H)) (p : List MemPlace), okShs P ss ts = true → DataW.TrodAll enc P W 0 (fun _ => true) true ts vs ds p →
    (∀ (j : Nat) (t : TypeId) (v : Value), ts[j]? = some t → vs[j]? = some v → Value.okWide P W r base t v) → (∀ n ∈ DataW.weightsEach P ts ds, n ≤ 140737488351232) →
    GdFs ss ds ∧ (argAs ss ds).length = vs.length ∧ ∀ (j : Nat) (a : AV) (c : Value), (argAs ss ds)[j]? = some a → vs[j]? = some c → CR W (Sall W) a c
  | [], [], vs, ds, p, _, h, _, _ => by
    obtain ⟨rfl, rfl, rfl⟩ := trodAll_nil h
    exact ⟨rfl, rfl, fun j a c h => by simp [argAs] at h⟩
  | [], _ :: _, _, _, _, h, _, _, _ => by simp [okShs] at h
  | _ :: _, [], _, _, _, h, _, _, _ => by simp [okShs] at h
  | s :: ss, t :: ts, vs, ds, p, h, hA, hv, hw => by
    obtain ⟨v, vs, d, ds, p0, q0, rfl, rfl, rfl, h0, r0⟩ := trodAll_cons hA
    simp only [okShs, Bool.and_eq_true] at h
    simp only [DataW.weightsEach, List.mem_append] at hw
    obtain ⟨g1, g2⟩ := arg_av (r := r) (base' := base) (v := v) (d := d) (ps := p0) (enc := enc) (w := W) h.1.1.1 (hv 0 t v rfl rfl) (fun n hn => hw n (.inl hn)) h0
    obtain ⟨q1, q2, q3⟩ := args_av ss ts vs ds q0 h.2 r0 (fun j t v h1 h2 => hv (j + 1) t v (by simpa using h1) (by simpa using h2)) fun n hn => hw n (.inr hn)
    refine ⟨⟨_, _, rfl, g1, q1⟩, by simp [argAs, q2], fun j a c ha hc => ?_⟩
    cases j with
    | zero => simp [argAs] at ha hc; subst ha; subst hc; exact g2
    | succ j => exact q3 j a c (by simpa [argAs] using ha) (by simpa using hc)

theorem args_back (hl : laidOutB P = true) {W' : World} (hb : Below W.heap.size W W') : ∀ (ss : List Sh) (ts : List TypeId) (vs : List Value) (ds : List (DataW H)) (p : List MemPlace), okShs P ss ts = true → DataW.TrodAll enc P W 0 (fun _ => true) true ts vs ds p →
    DataW.TrodAll enc P W' 0 (fun b => decide (b < W.heap.size)) true ts vs ds p
  | [], [], vs, ds, p, _, h => by
    obtain ⟨rfl, rfl, rfl⟩ := trodAll_nil h
    exact trodAll_mk0
  | [], _ :: _, _, _, _, h, _ => by simp [okShs] at h
  | _ :: _, [], _, _, _, h, _ => by simp [okShs] at h
  | s :: ss, t :: ts, vs, ds, p, h, hA => by
    obtain ⟨v, vs, d, ds, p0, q0, rfl, rfl, rfl, h0, r0⟩ := trodAll_cons hA
    simp only [okShs, Bool.and_eq_true, decide_eq_true_eq] at h
    have lt0 : ∀ x ∈ p0, x.block < W.heap.size := by obtain ⟨m, hm⟩ := h0; exact DataW.trod_lt m _ _ _ hm
    exact trodAll_cons_mk (Below.trod hl h.1.1.2 h.1.2 h0 hb lt0) (args_back hl hb ss ts vs ds q0 h.2 r0)
end

/-- From a law's contract to its row. -/
theorem law_row {C : Checked} {os : Os} {f : FuncId} {fn : Func} {s : ChangeSpec} {H : Type} {enc : TypeId × Value → H} {tb : TypeId} {apart : Bool} (own : ownKnob C.prog.godebug = none) (started : os.Started) (noInit : C.prog.inits.idxOf? f = none) (hfn : C.prog.funcs[f]? = some fn)
    (hl : laidOutB C.prog = true) (hvars : s.vars = []) (hr : fn.resultTypes = #[tb]) (htb : C.prog.underlying tb = some .bool) (ss : List Sh) (hss : okShs C.prog ss fn.params.toList = true)
    (hspec : ∀ ds : List (DataW H), ds.length = ss.length → s.fn H ds = { results := [.lit (.bool true)], args := ds, vars := [] })
    (witness : ∃ (w : World) (tape : Tape) (i : Input), w.os = os ∧ (w.forCall tape i).Shaped C.prog ∧ i.vars = [] ∧ Input.okWide C.prog (w.forCall tape i) .any w.heap.size f i ∧
      s.pre6 enc C.prog fn [] apart (w.forCall tape i).memory i.args ∧ ({} : Assume).holds C.prog (lone (Frame.enter C.prog f i.args .normal) [] (w.forCall tape i)))
    (hfc : ∀ ds : List (DataW H), GdFs ss ds → ∃ al, FC C.prog f (argAs ss ds) [] (.bool true) [] al) :
    ReturnsInHanded {} C os f .any (s.pre6 enc C.prog fn [] apart) (s.post enc C.prog fn apart true false false) := by
  refine returnsInHanded_of_change_sized (C := C) own started noInit hfn witness ?_
  intro W base args ds gs before hval hW _ hsz _
  have hW' := hW
  obtain ⟨p, q, hA, hV, rfl, hfz, hnd⟩ := hW
  rw [hvars] at hV
  obtain ⟨rfl, rfl⟩ := trodVars_none hV
  have hw : ∀ n ∈ DataW.weightsEach C.prog fn.params.toList ds, n ≤ 140737488351232 := fun n hn => by
    have hvt : s.plain.varTypes C.prog = [] := by
      show DataSpec.varTypes C.prog s.plain = []
      unfold DataSpec.varTypes
      simp [ChangeSpec.plain, hvars]
    rw [hvt] at hsz
    simp only [List.append_nil] at hsz
    have := List.all_eq_true.1 hsz n hn
    exact (of_decide_eq_true this : n ≤ reachBytes)
  obtain ⟨g1, g2, g3⟩ := args_av (r := .any) (base := base) ss fn.params.toList args.toList ds p hss hA (fun j t v h1 h2 => hval j t v (by simpa using h1) (by simpa using h2)) hw
  obtain ⟨al, hc⟩ := hfc ds g1
  have hvr : VRs W (Sall W) (fun _ => none) (argAs ss ds) args := ⟨by simpa using g2.symm, fun j v hv => .cl (by
    have hj : j < args.size := by
      have := (List.getElem?_eq_some_iff.1 hv).1
      rw [g2] at this; simpa using this
    have e : args.getD j undef = args[j] := by simp [hj]
    rw [e]
    exact g3 j v _ hv (by simp [hj]))⟩
  refine (fc_row (c := .bool true) hc hvr fun w' S ρ cv hv => hv.bool_inv).mono fun e W' ⟨he, bel⟩ => ?_
  subst he
  have hln : ds.length = ss.length := gd_len ss ds g1
  have hsp := hspec ds hln
  have hps : DataW.TrodAll enc C.prog W' W.heap.size (fun _ => false) false fn.resultTypes.toList ((Value.bool true).resultList fn.resultTypes.size) [.lit (.bool true)] [] := by
    rw [hr]
    exact trodAll_mk1 (shut_bool htb _)
  refine ⟨_, rfl, ds, [], _, [], p, [], hW', ?_, ?_, ?_, bel.frame _, fun h => by cases h⟩
  · rw [List.append_nil, hsp]; exact hps
  · rw [List.append_nil, hsp]; exact args_back hl bel ss _ _ _ _ hss hA
  · rw [List.append_nil, hsp, hvars]; rfl

end Go.Proofs.Ytadjdnhnbkcakaa
