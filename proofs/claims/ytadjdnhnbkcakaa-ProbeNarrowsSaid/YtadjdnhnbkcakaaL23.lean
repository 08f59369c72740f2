/-
  Calls and ends with side conditions that compute.
-/
import Derived.Test.YtadjdnhnbkcakaaL22
namespace Go.Proofs.Ytadjdnhnbkcakaa
open Go.RowKit

section
variable {P : Program} {N : Nat} {Z : List Nat} {Q : Post} {F F0 : Fr} {H H0 : Hp} {ml : List MOper} {K : List Fp → Fr → Hp → Prop} {d : Nat} {g : Option (Nat × Bool)} {pre : List Nat}

theorem rc_int {k : IntKind} {a b : Int} (h : a = b) {al : Bool} : RC H H0 al (.int k a) (.int k b) := by
  subst h; exact rc_same rfl (.inr rfl)
theorem rc_eq {a b : AV} (h : a = b) (hs : scopedV (keysOf H0) b = true) : RC H H0 true a b := by
  subst h; exact rc_same hs (.inl rfl)

theorem rs_nil_n {sl neg : Bool} {x : Arg} {v : AV} (hg : gOK F g = true) (hx : aarg F x = some v) (hv : (sl = true ∧ v = .nils) ∨ (sl = false ∧ v = .nilp)) (h : RS P N ml ((d, .bool (!neg)) :: F) H (fun fps => K (([], []) :: fps))) : RS P N (⟨some d, .isnil sl neg x, g, pre⟩ :: ml) F H K :=
  rs_op hg (by
    simp only [mev, hx]
    rcases hv with ⟨rfl, rfl⟩ | ⟨rfl, rfl⟩ <;> exact h)
theorem rs_nil_f {neg : Bool} {x : Arg} {v : AV} (hg : gOK F g = true) (hx : aarg F x = some v) (hv : (∃ z e els, v = .rs z (e :: els)) ∨ ∃ i j n, v = .sl i j (n + 1)) (h : RS P N ml ((d, .bool neg) :: F) H (fun fps => K (([], []) :: fps))) : RS P N (⟨some d, .isnil true neg x, g, pre⟩ :: ml) F H K :=
  rs_op hg (by
    simp only [mev, hx]
    rcases hv with ⟨z, e, els, rfl⟩ | ⟨i, j, n, rfl⟩ <;> exact h)
theorem rs_nil_any {neg : Bool} {x : Arg} {v : AV} (hg : gOK F g = true) (hx : aarg F x = some v) (hv : (∃ z, v = .rs z []) ∨ ∃ i j, v = .sl i j 0) (h : RS P N ml ((d, .anyb) :: F) H (fun fps => K (([], []) :: fps))) : RS P N (⟨some d, .isnil true neg x, g, pre⟩ :: ml) F H K :=
  rs_op hg (by
    simp only [mev, hx]
    rcases hv with ⟨z, rfl⟩ | ⟨i, j, rfl⟩ <;> exact h)
theorem rs_nil_p {neg : Bool} {x : Arg} {v : AV} (hg : gOK F g = true) (hx : aarg F x = some v) (hv : (∃ cs, v = .rp cs) ∨ ∃ i j n, v = .ptr i j n) (h : RS P N ml ((d, .bool neg) :: F) H (fun fps => K (([], []) :: fps))) : RS P N (⟨some d, .isnil false neg x, g, pre⟩ :: ml) F H K :=
  rs_op hg (by
    simp only [mev, hx]
    rcases hv with ⟨cs, rfl⟩ | ⟨i, j, n, rfl⟩ <;> exact h)
theorem rs_beq {neg : Bool} {x y : Arg} {a b : Bool} (hg : gOK F g = true) (hx : aarg F x = some (.bool a)) (hy : aarg F y = some (.bool b)) (h : RS P N ml ((d, .bool (neg != (a == b))) :: F) H (fun fps => K (([], []) :: fps))) : RS P N (⟨some d, .beq neg x y, g, pre⟩ :: ml) F H K :=
  rs_op hg (by simp only [mev, hx, hy]; exact h)
theorem rs_mkmap (hg : gOK F g = true) (hd : get H d = none) (h : RS P N ml ((d, .mp d) :: F) ((d, .mset []) :: H) (fun fps => K (([], [d]) :: fps))) : RS P N (⟨some d, .mkmap, g, pre⟩ :: ml) F H K :=
  rs_op hg (by simp only [mev]; exact ⟨hd, h⟩)
theorem rs_mapadd {m k v : Arg} {i : Nat} {n : Int} {u : AV} {ks : List Int} (hg : gOK F g = true) (hm : aarg F m = some (.mp i)) (hk : aarg F k = some (.int .i64 n)) (hv : aarg F v = some u) (hi : get H i = some (.mset ks))
    (h : RS P N ml F ((i, .mset (addK ks n)) :: H) (fun fps => K (([], [i]) :: fps))) : RS P N (⟨none, .mapadd m k v, g, pre⟩ :: ml) F H K :=
  rs_op hg (by simp only [mev, hm, hk, hv, hi]; exact h)
theorem rs_lenm {x : Arg} {i : Nat} {ks : List Int} (hg : gOK F g = true) (hx : aarg F x = some (.mp i)) (hi : get H i = some (.mset ks)) (h : RS P N ml ((d, .int .i64 ks.length) :: F) H (fun fps => K (([i], []) :: fps))) : RS P N (⟨some d, .lenm x, g, pre⟩ :: ml) F H K :=
  rs_op hg (by simp only [mev, hx, hi]; exact h)

theorem flat_map {α : Type} {f : α → List AV} (hf : ∀ x, closedL (f x) = true) : ∀ xs : List α, flatE (xs.map f) = true
  | [] => rfl
  | x :: xs => by
    have := flat_map hf xs
    simp only [List.map_cons, flatE, hf, Bool.true_and]
    exact this

section
variable {α : Type} {f : α → List AV} {ys xs : List α} {z e : Nat} {x : Arg}
/-- A list behind an empty one. -/
theorem rs_app_e {by_ a n : Nat} {zero : List AV} {s : Arg} {v : AV} {rd : List Nat} (hg : gOK F g = true) (hs : aarg F s = some (.sl a 0 0)) (hx : aarg F x = some v) (ha : get H a = some (.cells e z [] true)) (hsrc : srcOf H z v = some (rd, ys.map f))
    (hz : zero.length = z) (hd : get H d = none) (hird : a ∉ rd) (hl : ∀ y, (f y).length = z) (hn : ys.length = n) (hb : n * by_ ≤ 140737488355328) (h63 : n ≤ 9223372036854775807) (hfl : ∀ y, closedL (f y) = true)
    (h : RS P N ml ((d, .sl d 0 n) :: F) ((d, .cells e z (ys.map f) true) :: (a, .dead) :: H) (fun fps => K ((rd, [a, d]) :: fps))) : RS P N (⟨some d, .app e z by_ zero s x, g, pre⟩ :: ml) F H K :=
  rs_app (m := n) (fl' := true) hg hs hx ha hsrc hz hd rfl hird (by simp [hl]) (by simpa using hn) (by simpa using hb) (by simpa using h63) (by rw [flat_map hfl]; rfl) (by simpa using h)
/-- A list behind another. -/
theorem rs_app_mm {by_ a n m : Nat} {zero : List AV} {s : Arg} {v : AV} {rd : List Nat} (hg : gOK F g = true) (hs : aarg F s = some (.sl a 0 n)) (hx : aarg F x = some v) (ha : get H a = some (.cells e z (xs.map f) true)) (hsrc : srcOf H z v = some (rd, ys.map f))
    (hz : zero.length = z) (hd : get H d = none) (hird : a ∉ rd) (hl : ∀ y, (f y).length = z) (hn : xs.length = n) (hm : ys.length = m) (hb : (n + m) * by_ ≤ 140737488355328) (h63 : n + m ≤ 9223372036854775807) (hfl : ∀ y, closedL (f y) = true)
    (h : RS P N ml ((d, .sl d 0 (n + m)) :: F) ((d, .cells e z ((xs ++ ys).map f) true) :: (a, .dead) :: H) (fun fps => K ((rd, [a, d]) :: fps))) : RS P N (⟨some d, .app e z by_ zero s x, g, pre⟩ :: ml) F H K :=
  rs_app (m := m) (fl' := true) hg hs hx ha hsrc hz hd (by simpa using hn) hird (by simp [hl]) (by simpa using hm) hb h63 (by rw [flat_map hfl]; rfl) (by simpa using h)
end

theorem VR.anyb_inv {w : World} {S : Nat → Prop} {ρ : Rho} {c : Value} (h : VR w S ρ .anyb c) : ∃ b, c = .bool b := by
  cases h with
  | cl h => cases h with
    | anyb b => exact ⟨b, rfl⟩

/-- A condition of which nothing is known. -/
theorem aw_condany {x : Arg} {y z : MC} (ht : aarg F x = some .anyb) (h1 : AW P N Z y Q F H) (h2 : AW P N Z z Q F H) : AW P N Z (.cond x y z) Q F H := fun code hc S ρ a w hcf => by
  cases code <;> simp [compC] at hc
  case cond cx cy cz =>
    split at hc
    · rename_i x' y' z' hx hy hz
      simp at hc
      obtain ⟨rfl, rfl, rfl⟩ := hc
      obtain ⟨t, e⟩ := (carg_ok hx (ts := x'.slots) (fun t _ v hv => hcf.fr.at_ t v hv) (fun _ h => h) ht).anyb_inv
      exact wp_cond_split e (fun _ => h1 cy hy S ρ a w hcf) fun _ => h2 cz hz S ρ a w hcf
    · cases hc
  all_goals (repeat' split at hc) <;> cases hc

/-- The rows of Hs lie in H. -/
inductive SubH (H : Hp) : Hp → Prop where
  | nil : SubH H []
  | cons {i : Nat} {ob : Ob} {Hs : Hp} (h : get H i = some ob) (r : SubH H Hs) : SubH H ((i, ob) :: Hs)
theorem SubH.at_ {Hs : Hp} (h : SubH H Hs) : ∀ i ob, get Hs i = some ob → get H i = some ob := by
  induction h with
  | nil => intro i ob h; simp [get] at h
  | cons h _ ih =>
    intro k o hk
    simp only [get] at hk
    split at hk
    · rename_i e; subst e; injection hk with hk; subst hk; exact h
    · exact ih k o hk

def newOk (H Hs H' : Hp) : Bool := (keysOf H').all fun i => (keysOf Hs).contains i || (get H i).isNone
def domOk (Hs H' : Hp) : Bool := (keysOf Hs).all fun i => (keysOf H').contains i

theorem newOk_spec {Hs H' : Hp} (h : newOk H Hs H' = true) : ∀ i, get H' i ≠ none → get Hs i = none → get H i = none := fun i h1 h2 => by
  have := List.all_eq_true.1 h i (mem_keys.2 h1)
  rcases Bool.or_eq_true _ _ ▸ this with h | h
  · exact absurd h2 (mem_keys.1 (by simpa using h))
  · simpa using h
theorem domOk_spec {Hs H' : Hp} (h : domOk Hs H' = true) : ∀ i, get Hs i ≠ none → get H' i ≠ none := fun i h1 => by
  have := List.all_eq_true.1 h i (mem_keys.2 h1)
  exact mem_keys.1 (by simpa using this)

theorem rs_callo {f : Nat} {as : List Arg} {vs vs' : List AV} {r : AV} (Hs : Hp) {H' : Hp} (hg : gOK F g = true) (hv : aargs F as = some vs) (hfc : FC P f vs' Hs r H' true) (hh : HVs H Hs [] true vs vs') (hsub : SubH H Hs) (hsc : scopedHs Hs = true)
    (hnew : newOk H Hs H' = true) (hdom : domOk Hs H' = true) (h : RS P N ml ((d, r) :: F) (H' ++ H) (fun fps => K (([], keysOf H') :: fps))) : RS P N (⟨some d, .call f as, g, pre⟩ :: ml) F H K :=
  rs_callm hg hv hfc hh hsub.at_ hsc (newOk_spec hnew) (domOk_spec hdom) h

theorem rs_calln {f : Nat} {as : List Arg} {vs vs' : List AV} (rd : List Nat) {r : AV} {H' : Hp} (hg : gOK F g = true) (hv : aargs F as = some vs) (hfc : FC P f vs' [] r H' false) (hh : HVs H [] rd false vs vs') (hnew : newOk H [] H' = true)
    (h : RS P N ml ((d, r) :: F) (H' ++ H) (fun fps => K ((rd, keysOf H') :: fps))) : RS P N (⟨some d, .call f as, g, pre⟩ :: ml) F H K :=
  rs_call hg hv hfc hh (fun i hi => newOk_spec hnew i (mem_keys.1 hi) rfl) h

/-- The names of Z in the result. -/
inductive ZL (H H' : Hp) : List Nat → Prop where
  | nil : ZL H H' []
  | cons {i : Nat} {Z : List Nat} {ob ob2 : Ob} (h : get H' i = some ob) (hl : ob.live = true) (h2 : get H i = some ob2) (r : ZL H H' Z) : ZL H H' (i :: Z)
theorem ZL.at_ {H' : Hp} (h : ZL H H' Z) : ∀ i, i ∈ Z → ∃ ob, get H' i = some ob ∧ ob.live = true ∧ get H i ≠ none := by
  induction h with
  | nil => intro i h; cases h
  | cons h hl h2 _ ih =>
    intro i hi
    rcases List.mem_cons.1 hi with rfl | hi
    · exact ⟨_, h, hl, by rw [h2]; simp⟩
    · exact ih i hi

theorem ret_own {rs : List ResultVar} {r : AV} {vs : List AV} {H' : Hp} (h : resVs P F H rs = some vs) (hr : RC H H' true (resOne vs) r) (hk : KeptHs H (keysOf H') H') (hz : ZL H H' Z) : RetQ P Z rs r H' true .ret F H :=
  ⟨.inr rfl, vs, h, hr, hk.keptH, hz.at_⟩

/-- No read-only part in a row. -/
def noROE : List (List AV) → Bool
  | [] => true
  | e :: r => noROL e && noROE r
theorem noROE_mem : ∀ {els : List (List AV)}, noROE els = true → ∀ el ∈ els, ∀ v ∈ el, noRO v = true
  | e :: r, h, el, he, v, hv => by
    simp only [noROE, Bool.and_eq_true] at h
    rcases List.mem_cons.1 he with rfl | he
    · exact noROL_mem h.1 hv
    · exact noROE_mem h.2 el he v hv
theorem noROE_map {α : Type} {f : α → List AV} (hf : ∀ x, noROL (f x) = true) : ∀ xs : List α, noROE (xs.map f) = true
  | [] => rfl
  | x :: xs => by simp only [List.map_cons, noROE, hf, noROE_map hf xs, Bool.and_self]

inductive KeptHr (H : Hp) (D : List Nat) : Hp → Prop where
  | nil : KeptHr H D []
  | keep {i e z : Nat} {els : List (List AV)} {fl : Bool} {H0 : Hp} (h : get H i = some (.cells e z els fl)) (hs : scopedOb D (.cells e z els fl) = true) (hn : noROE els = true) (r : KeptHr H D H0) : KeptHr H D ((i, .cells e z els fl) :: H0)
  | virt {i e z : Nat} {fl : Bool} {H0 : Hp} (h : get H i = none) (r : KeptHr H D H0) : KeptHr H D ((i, .cells e z [] fl) :: H0)
theorem KeptHr.at_ {D : List Nat} (h : KeptHr H D H0) {al : Bool} : ∀ i ob, get H0 i = some ob → (get H i = some ob ∧ scopedOb D ob = true ∧ (al = true ∨ ∀ e z els fl, ob = .cells e z els fl → ∀ el ∈ els, ∀ v ∈ el, noRO v = true)) ∨ (get H i = none ∧ ∃ e z fl, ob = .cells e z [] fl) := by
  induction h with
  | nil => intro i ob h; simp [get] at h
  | keep h hs hn _ ih =>
    intro k o hk
    simp only [get] at hk
    split at hk
    · rename_i e; subst e; injection hk with hk; subst hk
      refine .inl ⟨h, hs, .inr fun e z els fl he => ?_⟩
      injection he with e1 e2 e3 e4; subst e3
      exact noROE_mem hn
    · exact ih k o hk
  | virt h _ ih =>
    intro k o hk
    simp only [get] at hk
    split at hk
    · rename_i e; subst e; injection hk with hk; subst hk; exact .inr ⟨h, _, _, _, rfl⟩
    · exact ih k o hk

/-- The end of a function that hands out new objects and nothing of its arguments. -/
theorem ret_new {rs : List ResultVar} {r : AV} {vs : List AV} {H' : Hp} {al : Bool} (h : resVs P F H rs = some vs) (hr : RC H H' al (resOne vs) r) (hk : KeptHr H (keysOf H') H') : RetQ P [] rs r H' al .ret F H :=
  ⟨.inr rfl, vs, h, hr, fun i ob hi => hk.at_ i ob hi, fun i hi => by cases hi⟩

/-- The end of a function that hands out a new list under a name of its own. -/
theorem weak_rc {F1 : Fr} {H1 : Hp} {rs : List ResultVar} {r : AV} {H' : Hp} {al : Bool} {e : Exit} (hw : Weak N Z F H F1 H1) (h : RetQ P Z rs r H' al e F1 H1) : WQ N Z (RetQ P Z rs r H' al) e F H := ⟨F1, H1, hw, h⟩

end
end Go.Proofs.Ytadjdnhnbkcakaa
