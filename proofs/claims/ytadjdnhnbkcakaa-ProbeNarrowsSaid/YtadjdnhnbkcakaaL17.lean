/-
  Contracts of functions ('FC'), and a call by its callee's contract.
-/
import Derived.Test.YtadjdnhnbkcakaaL16
namespace Go.Proofs.Ytadjdnhnbkcakaa
open Go.RowKit

mutual
/-- Names only own objects of the list. -/
def scopedV (D : List Nat) : AV → Bool
  | .ptr i _ _ => D.contains i
  | .sl i _ _ => D.contains i
  | .sa i _ _ _ => D.contains i
  | .mp i => D.contains i
  | .fn _ caps => scopedL D caps
  | .agg cs => scopedL D cs
  | .tup cs => scopedL D cs
  | _ => true
def scopedL (D : List Nat) : List AV → Bool
  | [] => true
  | v :: l => scopedV D v && scopedL D l
end

theorem scopedL_mem {D : List Nat} : ∀ {l : List AV} {v : AV}, scopedL D l = true → v ∈ l → scopedV D v = true
  | u :: l, v, h, hv => by
    simp only [scopedL, Bool.and_eq_true] at h
    rcases List.mem_cons.1 hv with rfl | hv
    · exact h.1
    · exact scopedL_mem h.2 hv

theorem VR.scope {w : World} {S : Nat → Prop} {ρ ρ' : Rho} {v : AV} {c : Value} (h : VR w S ρ v c) {D : List Nat} (hs : scopedV D v = true) (hρ : ∀ i, i ∈ D → ρ' i = ρ i) : VR w S ρ' v c := by
  induction h with
  | cl h => exact .cl h
  | ptr i j o b z cap h => exact .ptr i j o b z cap ((hρ i (by simpa [scopedV] using hs)).trans h)
  | sl i j n b z cap cap' h hc hn => exact .sl i j n b z cap cap' ((hρ i (by simpa [scopedV] using hs)).trans h) hc hn
  | sl0 i z h => exact .sl0 i z ((hρ i (by simpa [scopedV] using hs)).trans h)
  | sa i j o n b z cap cap' h hn => exact .sa i j o n b z cap cap' ((hρ i (by simpa [scopedV] using hs)).trans h) hn
  | fn f caps C hn _ ih =>
    simp only [scopedV] at hs
    exact .fn f caps C hn fun j v hj => ih j v hj (scopedL_mem hs (List.mem_of_getElem? hj))
  | agg cs C hn h1 _ ih =>
    simp only [scopedV] at hs
    exact .agg cs C hn h1 fun j v hj => ih j v hj (scopedL_mem hs (List.mem_of_getElem? hj))
  | tup cs C hn _ ih =>
    simp only [scopedV] at hs
    exact .tup cs C hn fun j v hj => ih j v hj (scopedL_mem hs (List.mem_of_getElem? hj))
  | mp i b z cap h => exact .mp i b z cap ((hρ i (by simpa [scopedV] using hs)).trans h)

def scopedE (D : List Nat) : List (List AV) → Bool
  | [] => true
  | e :: r => scopedL D e && scopedE D r

theorem scopedE_mem {D : List Nat} : ∀ {els : List (List AV)} {el : List AV}, scopedE D els = true → el ∈ els → scopedL D el = true
  | e :: r, el, h, he => by
    simp only [scopedE, Bool.and_eq_true] at h
    rcases List.mem_cons.1 he with rfl | he
    · exact h.1
    · exact scopedE_mem h.2 he

def scopedOb (D : List Nat) : Ob → Bool
  | .dead => true
  | .mset _ => true
  | .cells _ _ _ true => true
  | .cells _ _ els false => scopedE D els

theorem OR.scope {w : World} {S : Nat → Prop} {ρ ρ' : Rho} {ob : Ob} {bk : Option Nat} {z cap : Nat} (h : OR w S ρ ob bk z cap) {D : List Nat} (hs : scopedOb D ob = true) (hρ : ∀ i, i ∈ D → ρ' i = ρ i) : OR w S ρ' ob bk z cap := by
  cases ob with
  | dead => trivial
  | mset ks => exact h
  | cells e z' els fl =>
    obtain ⟨hz, h⟩ := h
    refine ⟨hz, ?_⟩
    cases bk with
    | none => exact h
    | some b =>
      obtain ⟨h0, hm, C, hC, h1, h2, h3, h4⟩ := h
      refine ⟨h0, hm, C, hC, h1, h2, h3, fun j el o v he hv => ?_⟩
      obtain ⟨q1, q2⟩ := h4 j el o v he hv
      refine ⟨q1, ?_⟩
      cases fl with
      | true => exact q2
      | false =>
        rw [if_neg (by simp)] at q2 ⊢
        exact q2.scope (scopedL_mem (scopedE_mem hs (List.mem_of_getElem? he)) (List.mem_of_getElem? hv)) hρ

def VRs (w : World) (S : Nat → Prop) (ρ : Rho) (vs : List AV) (C : Array Value) : Prop := C.size = vs.length ∧ ∀ (j : Nat) (v : AV), vs[j]? = some v → VR w S ρ v (C.getD j undef)

/-- The contract of a function, told of abstract values: called with args over the own objects H it hands back r and leaves H'. al: the result may share memory with the arguments. -/
def FC (P : Program) (f : FuncId) (args : List AV) (H : Hp) (r : AV) (H' : Hp) (al : Bool) : Prop :=
  ∀ (w : World) (S : Nat → Prop) (ρ : Rho) (cargs : Array Value), HRF w S ρ (get H) → VRs w S ρ args cargs → Calls P f cargs w fun e w' => ∃ cv S' ρ', e = .returned cv ∧ VR w' S' ρ' r cv ∧ HRF w' S' ρ' (get H') ∧
    Keep w w' (LiveF ρ (get H) All) ∧ (∀ b, S' b → (al = true ∧ S b) ∨ w.heap.size ≤ b) ∧ (∀ b, LiveF ρ' (get H') All b → LiveF ρ (get H) All b ∨ w.heap.size ≤ b) ∧
    (∀ i, get H i ≠ none → ρ' i = ρ i) ∧ (∀ i, get H i ≠ none → get H' i ≠ none)

theorem get_append {α : Type} : ∀ (A B : List (Nat × α)) (i : Nat), get (A ++ B) i = (get A i).or (get B i)
  | [], B, i => by simp [get]
  | (k, v) :: A, B, i => by
    simp only [List.cons_append, get]
    split
    · simp
    · exact get_append A B i

section
variable {P : Program} {N : Nat} {ops : Array Oper} {o : Oper} {mo : MOper} {F : Fr} {H : Hp}

/-- The names that a heap bears. -/
def keysOf {α : Type} (H : List (Nat × α)) : List Nat := H.map (·.1)

theorem mem_keys {α : Type} : ∀ {H : List (Nat × α)} {i : Nat}, i ∈ keysOf H ↔ get H i ≠ none
  | [], i => by simp [keysOf, get]
  | (k, v) :: H, i => by
    have ih := @mem_keys α H i
    simp only [keysOf, List.map_cons, List.mem_cons, get] at ih ⊢
    by_cases h : k = i
    · simp [h]
    · rw [if_neg h, ← ih]
      exact ⟨fun h' => h'.resolve_left (Ne.symm h), .inr⟩

theorem guard_wanted {mo : MOper} (hc : compOper P N ops o = some mo) {F : Fr} {a : Act} {w : World} {S : Nat → Prop} {ρ : Rho} (hF : FRs mo.slots F a w S ρ)
    (hg : mo.guard = none ∨ ∃ g want, mo.guard = some (g, want) ∧ get F g = some (.bool want)) : Region.wanted o (yielded ops a.tmps) = true := by
  obtain ⟨_, _, _, _, e5⟩ := compOper_parts hc
  rcases e5 with ⟨g1, _⟩ | ⟨j, g, want, g1, g2, g3⟩
  · simp [Region.wanted, g1]
  · rcases hg with hg | ⟨g', want', hg, hgv⟩
    · rw [g3] at hg; cases hg
    · rw [g3] at hg
      simp only [Option.some.injEq, Prod.mk.injEq] at hg
      obtain ⟨rfl, rfl⟩ := hg
      have hv := (hF g (by simp [MOper.slots, g3]) _ hgv).bool_inv
      simp [Region.wanted, g1, yielded_bool g2 hv]

theorem run_callFunc {f : FuncId} (hf : entered P f = true) (args : Array Value) (w : World) : (callFunc f args).run P w = .ok (.enter f args) w := by
  unfold entered at hf
  split at hf
  · rename_i fn hfn
    simp only [Bool.and_eq_true, Bool.not_eq_true', beq_eq_false_iff_ne] at hf
    obtain ⟨h1, h2⟩ := hf
    cases hb : fn.body with
    | none => rw [hb] at h1; cases h1
    | some c => simp [callFunc, hfn, h2, hb]
  · cases hf

/-- What the caller owes: the call, entered, with what values. -/
def Enters (P : Program) (o : Oper) (mo : MOper) (F : Fr) (f : FuncId) (vs : List AV) : Prop :=
  ∀ (S : Nat → Prop) (ρ : Rho) (a : Act) (w : World), FRs mo.slots F a w S ρ → ∃ cargs : Array Value, (execOp a.eval o).run P w = .ok (.enter f cargs) w ∧ VRs w S ρ vs cargs

theorem enters_call (hc : compOper P N ops o = some mo) {f : FuncId} {as : List Arg} (hop : mo.op = .call f as) {vs : List AV} (hv : aargs F as = some vs) : Enters P o mo F f vs := by
  obtain ⟨e1, _⟩ := compOper_parts hc
  rw [hop] at e1
  intro S ρ a w hF
  cases ho : o.op with
  | call c =>
    rw [ho] at e1
    simp only [compOp, compCall] at e1
    split at e1
    · rename_i g hcal
      split at e1
      · rename_i hent
        split at e1
        · rename_i as' has
          injection e1 with e1
          injection e1 with e2 e3
          subst e2 e3
          obtain ⟨q1, q2⟩ := cargs_ok hF _ _ _ has (fun t ht => by simp [MOper.slots, hop, MOp.slots, ht]) hv
          have earr : c.args.map a.eval = (c.args.toList.map a.eval).toArray := by rw [← Array.toList_map, Array.toArray_toList]
          refine ⟨c.args.map a.eval, ?_, by rw [earr]; exact ⟨by simpa using q1, q2⟩⟩
          simp [execOp, ho, resolve, hcal, Act.eval, Deferred.ofValue, invoke, run_callFunc hent]
        · cases e1
      · cases e1
    · split at e1 <;> simp at e1
    all_goals (repeat' split at e1) <;> simp at e1
  | _ => rw [ho] at e1; simp only [compOp] at e1; (repeat' split at e1) <;> first | contradiction | (cases e1; done) | (obtain ⟨r, _, e2⟩ := map_some e1; cases e2)

theorem enters_callv (hc : compOper P N ops o = some mo) {g : Arg} {as : List Arg} (hop : mo.op = .callv g as) {vs cs : List AV} {f : FuncId} (hg : aarg F g = some (.fn (.func f) cs)) (hent : entered P f = true) (hv : aargs F as = some vs) :
    Enters P o mo F f (vs ++ cs) := by
  obtain ⟨e1, _⟩ := compOper_parts hc
  rw [hop] at e1
  intro S ρ a w hF
  cases ho : o.op with
  | call c =>
    rw [ho] at e1
    simp only [compOp, compCall] at e1
    split at e1
    · split at e1
      · split at e1 <;> simp at e1
      · cases e1
    · rename_i t hcal
      split at e1
      · rename_i as' has
        injection e1 with e1
        injection e1 with e2 e3
        subst e2 e3
        obtain ⟨q1, q2⟩ := cargs_ok hF _ _ _ has (fun t ht => by simp [MOper.slots, hop, MOp.slots, ht]) hv
        have hfv := carg_ok (x := .tmp t) (r := .t t) rfl hF (fun k hk => List.mem_append_left _ (by rw [hop]; exact List.mem_append_left _ hk)) hg
        obtain ⟨C, e4, e5, e6⟩ := hfv.fn_inv
        have earr : c.args.map a.eval = (c.args.toList.map a.eval).toArray := by rw [← Array.toList_map, Array.toArray_toList]
        refine ⟨c.args.map a.eval ++ C, ?_, by rw [earr]; simp at q1; simp [q1, e5], fun j v hj => ?_⟩
        · simp [execOp, ho, resolve, hcal, e4, Deferred.ofValue, invoke, run_callFunc hent]
        · rw [earr]
          by_cases hjl : j < vs.length
          · rw [List.getElem?_append_left hjl] at hj
            have := q2 j v hj
            have hs : j < (c.args.toList.map a.eval).toArray.size := by simp at q1 ⊢; omega
            rw [Array.getD_eq_getD_getElem?, Array.getElem?_append_left hs, ← Array.getD_eq_getD_getElem?]
            exact this
          · rw [List.getElem?_append_right (by omega)] at hj
            have hs : (c.args.toList.map a.eval).toArray.size ≤ j := by simp at q1 ⊢; omega
            rw [Array.getD_eq_getD_getElem?, Array.getElem?_append_right hs, ← Array.getD_eq_getD_getElem?]
            have hsz : (c.args.toList.map a.eval).toArray.size = vs.length := by simpa using q1
            rw [hsz]
            exact e6 _ v hj
      · cases e1
    all_goals (repeat' split at e1) <;> simp at e1
  | _ => rw [ho] at e1; simp only [compOp] at e1; (repeat' split at e1) <;> first | contradiction | (cases e1; done) | (obtain ⟨r, _, e2⟩ := map_some e1; cases e2)

/-- How the caller's values stand to the contract's: rd: own objects of the caller that the callee only reads. -/
def Hands (H Hs : Hp) (rd : List Nat) (al : Bool) (vs vs' : List AV) : Prop :=
  ∀ (w : World) (S : Nat → Prop) (ρ : Rho) (C : Array Value), HRi (fun i => i ∈ rd ∨ get Hs i ≠ none) w S ρ H → VRs w S ρ vs C →
    VRs w (fun b => S b ∨ (al = false ∧ LiveB ρ H (fun i => i ∈ rd) b)) (fun i => if get Hs i ≠ none then ρ i else none) vs' C

/-- A call by contract. -/
theorem step_call (hc : compOper P N ops o = some mo) (hg : mo.guard = none ∨ ∃ g want, mo.guard = some (g, want) ∧ get F g = some (.bool want)) {f : FuncId} {vs vs' : List AV} (he : Enters P o mo F f vs)
    {Hs H' : Hp} {r : AV} {al : Bool} {rd : List Nat} (hfc : FC P f vs' Hs r H' al) (hh : Hands H Hs rd al vs vs') (hal : al = false → Hs = []) (hsub : ∀ i ob, get Hs i = some ob → get H i = some ob)
    (hsc : ∀ i ob, get Hs i = some ob → scopedOb (keysOf Hs) ob = true) (hrd : ∀ i, i ∈ rd → get Hs i = none) (hnew : ∀ i, get H' i ≠ none → get Hs i = none → get H i = none) (hdom : ∀ i, get Hs i ≠ none → get H' i ≠ none) :
    StepM P N ops o mo F H rd (keysOf H') r (H' ++ H) := by
  have hwr : ∀ i, i ∈ keysOf H' ↔ get H' i ≠ none := fun i => mem_keys
  refine ⟨fun i hi => ?_, fun i hi => ?_, fun S ρ a w Q K hN hF hS hH hnewρ hK => ?_⟩
  · rw [hwr] at hi
    have : get H' i = none := by cases h : get H' i <;> simp_all
    rw [get_append, this]; rfl
  · rw [hwr] at hi
    rw [get_append]
    cases h : get H' i with
    | none => exact absurd h hi
    | some ob => rfl
  · have hw := guard_wanted hc hF hg
    unfold wpG
    rw [if_pos hw]
    refine .inl ?_
    obtain ⟨cargs, hrun, hvr⟩ := he S ρ a w hF
    have hI : ∀ i, (i ∈ rd ∨ get Hs i ≠ none) → (i ∈ rd ∨ i ∈ keysOf H') := fun i hi => hi.imp id fun h => (hwr i).2 (hdom i h)
    have hHI : HRi (fun i => i ∈ rd ∨ get Hs i ≠ none) w S ρ H := ⟨fun i ob hi => hH.ob i ob (hI i hi), fun i j oi oj b z z' c c' hi hj => hH.dis i j oi oj b z z' c c' (hI i hi) (hI j hj)⟩
    have hargs := hh w S ρ cargs hHI hvr
    -- facts on blocks
    have liveRd : ∀ i ob b z cap, (i ∈ rd ∨ i ∈ keysOf H') → get H i = some ob → ob.live = true → ρ i = some (some b, z, cap) → ¬ S b ∧ b < w.heap.size := fun i ob b z cap hi hgi hl hr => by
      obtain ⟨bk, z1, c1, q1, q2⟩ := hH.ob i ob hi hgi
      rw [hr] at q1
      injection q1 with q1
      obtain ⟨rfl, rfl, rfl⟩ : some b = bk ∧ z = z1 ∧ cap = c1 := by simpa using q1
      cases ob with
      | dead => cases hl
      | cells e1 z1 els1 fl1 =>
        obtain ⟨_, q3, _, C, q4, _⟩ := q2
        exact ⟨q3, (Array.getElem?_eq_some_iff.1 q4).1⟩
      | mset ks =>
        obtain ⟨b1, es, clk, e1, q3, q4, _⟩ := q2
        injection e1 with e1; subst e1
        exact ⟨q3, (Array.getElem?_eq_some_iff.1 q4).1⟩
    let Sc : Nat → Prop := fun b => S b ∨ (al = false ∧ LiveB ρ H (fun i => i ∈ rd) b)
    let ρs : Rho := fun i => if get Hs i ≠ none then ρ i else none
    have hρs : ∀ i, get Hs i ≠ none → ρs i = ρ i := fun i hi => if_pos hi
    have hHs : HRF w Sc ρs (get Hs) := by
      refine ⟨fun b hb => ?_, fun i hi => ?_, ⟨fun i ob _ hgi => ?_, fun i j oi oj b z z' c c' _ _ hne hgi hgj hli hlj hri hrj => ?_⟩⟩
      · rcases hb with hb | ⟨_, i, ob, z, cap, hi, hgi, hl, hr⟩
        · exact hS b hb
        · exact (liveRd i ob b z cap (.inl hi) hgi hl hr).2
      · simp [ρs, hi]
      · have hne : get Hs i ≠ none := by rw [hgi]; simp
        obtain ⟨bk, z, cap, q1, q2⟩ := hH.ob i ob (hI i (.inr hne)) (hsub i ob hgi)
        refine ⟨bk, z, cap, by rw [hρs i hne]; exact q1, ?_⟩
        have q3 := q2.scope (ρ' := ρs) (hsc i ob hgi) (fun k hk => hρs k (mem_keys.1 hk))
        refine OR.mono (w' := w) (S' := Sc) (ρ' := ρs) (fun b hb => .inl hb) (fun _ _ _ h => h) (fun _ _ h => h) (fun b hb hl => ⟨rfl, fun hs => ?_⟩) q3
        subst hb
        rcases hs with hs | ⟨ha, _⟩
        · exact (liveRd i ob b z cap (hI i (.inr hne)) (hsub i ob hgi) hl q1).1 hs
        · rw [hal ha] at hgi; simp [get] at hgi
      · have h1 : get Hs i ≠ none := by rw [hgi]; simp
        have h2 : get Hs j ≠ none := by rw [hgj]; simp
        rw [hρs i h1] at hri
        rw [hρs j h2] at hrj
        exact hH.dis i j oi oj b z z' c c' (hI i (.inr h1)) (hI j (.inr h2)) hne (hsub i oi hgi) (hsub j oj hgj) hli hlj hri hrj
    unfold Oper.wp
    rw [hrun]
    show Calls P f cargs w _
    refine (hfc w Sc ρs cargs hHs hargs).mono fun e w' ⟨cv, S', ρ', he, hv, hh', hk, hf, hown, hrho, _⟩ => ?_
    subst he
    show K (a.put o.dst cv) w'
    let Sn : Nat → Prop := fun b => S b ∨ S' b
    let ρn : Rho := fun i => if i ∈ keysOf H' then ρ' i else ρ i
    have hρn : ∀ i x, ρ' i = some x → ρn i = some x := fun i x hx => by
      have : i ∈ keysOf H' := (hwr i).2 fun h => by rw [hh'.dom i h] at hx; cases hx
      simp only [ρn]; rw [if_pos this]; exact hx
    have liveHs : ∀ b, LiveF ρs (get Hs) All b → LiveB ρ H (fun i => i ∈ rd ∨ i ∈ keysOf H') b := fun b ⟨i, ob, z, cap, _, hgi, hl, hr⟩ => by
      have hne : get Hs i ≠ none := by rw [hgi]; simp
      rw [hρs i hne] at hr
      exact ⟨i, ob, z, cap, hI i (.inr hne), hsub i ob hgi, hl, hr⟩
    have Sfresh : ∀ b, S' b → S b ∨ w.heap.size ≤ b := fun b hb => by
      rcases hf b hb with ⟨ha, hs⟩ | h
      · rcases hs with hs | ⟨ha', _⟩
        · exact .inl hs
        · rw [ha] at ha'; cases ha'
      · exact .inr h
    have cellS : ∀ (a : Addr) (c : Value), S a.block → w.cell? a = some c → w'.cell? a = some c := fun a c hs hc => by
      refine hk.cell (fun hl => ?_) hc
      obtain ⟨i, ob, z, cap, hi, hgi, hl', hr⟩ := liveHs a.block hl
      exact (liveRd i ob _ z cap hi hgi hl' hr).1 hs
    have new_of : ∀ i, i ∈ keysOf H' → get H i ≠ none → get Hs i ≠ none := fun i hi hne h => hne (hnew i ((hwr i).1 hi) h)
    have ρn_old : ∀ i, ¬ (i ∈ keysOf H' ∧ get H i = none) → ρn i = ρ i := fun i hi => by
      by_cases hw : i ∈ keysOf H'
      · have h1 : get Hs i ≠ none := new_of i hw fun h => hi ⟨hw, h⟩
        simp only [ρn]; rw [if_pos hw, hrho i h1, hρs i h1]
      · simp only [ρn]; rw [if_neg hw]
    have hρ_n : ∀ i x, ρ i = some x → ρn i = some x := fun i x hx => by
      rw [ρn_old i fun ⟨h1, h2⟩ => by rw [hnewρ i h1 h2] at hx; cases hx]; exact hx
    -- an object that the callee was handed or has made
    have inH' : ∀ i ob, i ∈ keysOf H' → get (H' ++ H) i = some ob → get H' i = some ob := fun i ob hi hgi => by
      rw [get_append] at hgi
      cases h : get H' i with
      | none => exact absurd h ((hwr i).1 hi)
      | some x => rw [h] at hgi; simpa using hgi
    have notH' : ∀ i ob, i ∉ keysOf H' → get (H' ++ H) i = some ob → get H i = some ob := fun i ob hi hgi => by
      have : get H' i = none := by cases h : get H' i with
        | none => rfl
        | some x => exact absurd ((hwr i).2 (by rw [h]; simp)) hi
      rw [get_append, this] at hgi; simpa using hgi
    have far : ∀ i ob b z cap, i ∈ rd → i ∉ keysOf H' → get H i = some ob → ob.live = true → ρ i = some (some b, z, cap) → ¬ LiveF ρs (get Hs) All b := fun i ob b z cap hi hni hgi hl hr ⟨k, ob', z', cap', _, hgk, hl', hrk⟩ => by
      have hne : get Hs k ≠ none := by rw [hgk]; simp
      rw [hρs k hne] at hrk
      exact hH.dis i k ob ob' b z z' cap cap' (.inl hi) (hI k (.inr hne)) (fun e => hne (by rw [← e]; exact hrd i hi)) hgi (hsub k ob' hgk) hl hl' hr hrk
    refine hK cv w' Sn ρn (hv.mono (fun b hb => .inr hb) (fun _ _ _ h => h) hρn) ⟨fun i ob hi hgi => ?_, fun i j oi oj b z z' c c' hi hj hne hgi hgj hli hlj hri hrj => ?_⟩
      ⟨hk.mono liveHs, fun b hb => .inl hb, fun b hb => hb.elim .inl (Sfresh b), fun b hb => hb.elim (fun h => Nat.lt_of_lt_of_le (hS b h) hk.size) (hh'.hS b), fun b hb => ?_, ρn_old⟩
    · by_cases hw' : i ∈ keysOf H'
      · have h1 := inH' i ob hw' hgi
        obtain ⟨bk, z, cap, q1, q2⟩ := hh'.at_.ob i ob trivial h1
        refine ⟨bk, z, cap, hρn i _ q1, q2.mono (fun b hb => .inr hb) (fun _ _ _ h => h) hρn fun b hb hl => ⟨rfl, fun hs => ?_⟩⟩
        subst hb
        rcases hs with hs | hs
        · rcases hown b ⟨i, ob, z, cap, trivial, h1, hl, q1⟩ with h | h
          · obtain ⟨k, ob', z', cap', hk1, hgk, hlk, hrk⟩ := liveHs b h
            exact (liveRd k ob' b z' cap' hk1 hgk hlk hrk).1 hs
          · have := hS b hs; omega
        · exact (hh'.cells_ne h1 hl q1).1 hs
      · have hi' : i ∈ rd := hi.resolve_right hw'
        have h1 := notH' i ob hw' hgi
        obtain ⟨bk, z, cap, q1, q2⟩ := hH.ob i ob hi h1
        refine ⟨bk, z, cap, hρ_n i _ q1, q2.mono (fun b hb => .inl hb) cellS hρ_n fun b hb hl => ?_⟩
        subst hb
        obtain ⟨g1, g2⟩ := liveRd i ob b z cap hi h1 hl q1
        exact ⟨hk.block b g2 (far i ob b z cap hi' hw' h1 hl q1), fun hs => hs.elim g1 fun hs => (Sfresh b hs).elim g1 (by omega)⟩
    · -- distinct
      have mixed : ∀ i j oi oj z z' c c', i ∈ keysOf H' → j ∉ keysOf H' → j ∈ rd → get H' i = some oi → get H j = some oj → oi.live = true → oj.live = true → ρ' i = some (some b, z, c) → ρ j = some (some b, z', c') → False := by
        intro i j oi oj z z' c c' hi hj hjr hgi hgj hli hlj hri hrj
        rcases hown b ⟨i, oi, z, c, trivial, hgi, hli, hri⟩ with h | h
        · exact far j oj b z' c' hjr hj hgj hlj hrj h
        · have := (liveRd j oj b z' c' (.inl hjr) hgj hlj hrj).2; omega
      by_cases hwi : i ∈ keysOf H'
      · have hgi' := inH' i oi hwi hgi
        simp only [ρn] at hri
        rw [if_pos hwi] at hri
        by_cases hwj : j ∈ keysOf H'
        · simp only [ρn] at hrj
          rw [if_pos hwj] at hrj
          exact hh'.at_.dis i j oi oj b z z' c c' trivial trivial hne hgi' (inH' j oj hwj hgj) hli hlj hri hrj
        · simp only [ρn] at hrj
          rw [if_neg hwj] at hrj
          exact mixed i j oi oj z z' c c' hwi hwj (hj.resolve_right hwj) hgi' (notH' j oj hwj hgj) hli hlj hri hrj
      · have hgi' := notH' i oi hwi hgi
        simp only [ρn] at hri
        rw [if_neg hwi] at hri
        by_cases hwj : j ∈ keysOf H'
        · simp only [ρn] at hrj
          rw [if_pos hwj] at hrj
          exact mixed j i oj oi z' z c' c hwj hwi (hi.resolve_right hwi) (inH' j oj hwj hgj) hgi' hlj hli hrj hri
        · simp only [ρn] at hrj
          rw [if_neg hwj] at hrj
          exact hH.dis i j oi oj b z z' c c' hi hj hne hgi' (notH' j oj hwj hgj) hli hlj hri hrj
    · obtain ⟨i, ob, z, cap, hi, hgi, hl, hr⟩ := hb
      by_cases hwi : i ∈ keysOf H'
      · simp only [ρn] at hr
        rw [if_pos hwi] at hr
        rcases hown b ⟨i, ob, z, cap, trivial, inH' i ob hwi hgi, hl, hr⟩ with h | h
        · exact .inl (liveHs b h)
        · exact .inr h
      · simp only [ρn] at hr
        rw [if_neg hwi] at hr
        exact .inl ⟨i, ob, z, cap, hi, notH' i ob hwi hgi, hl, hr⟩

end
end Go.Proofs.Ytadjdnhnbkcakaa
