/-
  'mev' is sound: whatever operation 'compOp' has taken.
-/
import Derived.Test.YtadjdnhnbkcakaaLm
namespace Go.Proofs.Ytadjdnhnbkcakaa
open Go.RowKit

section
variable {P : Program} {o : Oper} {F : List (Nat × AV)} {H : List (Nat × Ob)} {d : Nat} {K : AV → List Nat → List Nat → List (Nat × Ob) → Prop}

theorem map_some {α β : Type} {f : α → β} {x : Option α} {y : β} (h : x.map f = some y) : ∃ a, x = some a ∧ f a = y := by
  cases x with
  | none => cases h
  | some a => exact ⟨a, rfl, by injection h⟩

theorem args_one {c : Call} {b : Builtin} (hc : c.callee = .builtin b) {x : Operand} {t : TypeId} (h1 : c.args.toList = [x]) (h2 : c.argTypes.toList = [t]) : c = { callee := .builtin b, args := #[x], argTypes := #[t] } := by
  obtain ⟨callee, ⟨args⟩, ⟨ats⟩⟩ := c
  simp at hc h1 h2
  subst hc h1 h2
  rfl

theorem args_two {c : Call} {b : Builtin} (hc : c.callee = .builtin b) {x y : Operand} {t u : TypeId} (h1 : c.args.toList = [x, y]) (h2 : c.argTypes.toList = [t, u]) : c = { callee := .builtin b, args := #[x, y], argTypes := #[t, u] } := by
  obtain ⟨callee, ⟨args⟩, ⟨ats⟩⟩ := c
  simp at hc h1 h2
  subst hc h1 h2
  rfl

theorem args_two' {c : Call} {b : Builtin} (hc : c.callee = .builtin b) {x y : Operand} (h1 : c.args.toList = [x, y]) : c = { callee := .builtin b, args := #[x, y], argTypes := c.argTypes } := by
  obtain ⟨callee, ⟨args⟩, ats⟩ := c
  simp at hc h1
  subst hc h1
  rfl

theorem found_pure {m : MOp} {v : AV} (hK : K v [] [] H) (h : OpT P o m.slots F H [] [] v H) : Found P o m F H K := ⟨v, [], [], H, hK, fun _ _ => rfl, fun _ h => (by cases h), h⟩
theorem found_pure' {m : MOp} (h : ∃ v, K v [] [] H ∧ OpT P o m.slots F H [] [] v H) : Found P o m F H K := by
  obtain ⟨v, h1, h2⟩ := h
  exact found_pure h1 h2
theorem found_read {m : MOp} (h : ∃ v rd, K v rd [] H ∧ OpT P o m.slots F H rd [] v H) : Found P o m F H K := by
  obtain ⟨v, rd, h1, h2⟩ := h
  exact ⟨v, rd, [], H, h1, fun _ _ => rfl, fun _ h => (by cases h), h2⟩

theorem found_call {c : Call} {m : MOp} (ho : o.op = .call c) (hc : compCall P c = some m) (h : mev F H d K m) : Found P o m F H K := by
  unfold compCall at hc
  split at hc
  · -- a static call
    split at hc
    · split at hc
      · injection hc with hc; subst hc; exact h.elim
      · cases hc
    · cases hc
  · split at hc
    · injection hc with hc; subst hc; exact h.elim
    · cases hc
  · -- len
    rename_i hb
    split at hc
    · rename_i x t hx ht
      have e := args_one hb hx ht
      rw [e] at ho
      split at hc
      · rename_i e0 a hu ha
        injection hc with hc; subst hc
        exact found_pure' (opt_len hu ha ho (K := fun v => K v [] [] H) h)
      · rename_i n e0 hu
        injection hc with hc; subst hc
        exact found_pure h (opt_lenc hu ho _)
      · rename_i k0 e0 a hu ha
        injection hc with hc; subst hc
        simp only [mev] at h
        split at h
        · rename_i i hv
          split at h
          · rename_i ks hi; exact found_read ⟨_, _, h, opt_lenm hu ha ho hv hi⟩
          · exact h.elim
        · exact h.elim
      · cases hc
    · cases hc
  · -- append
    rename_i hb
    split at hc
    · rename_i x y t u hx ht
      split at hc
      · rename_i htu
        subst htu
        have e := args_two hb hx ht
        rw [e] at ho
        split at hc
        · rename_i e0 a b hu ha hbb
          split at hc
          · rename_i z by_ zero hz
            split at hc
            · cases hc
            · rename_i hz0
              injection hc with hc; subst hc
              simp only [mev] at h
              split at h
              · rename_i v hv hw
                split at h
                · rename_i rd news hs
                  obtain ⟨_, h1, h2, h3, h4, h5⟩ := h
                  exact ⟨_, _, _, _, h5, fun i hi => get_cons_ne hi, fun k hk => get_cons_some hk, opt_app_nil hu hz hz0 ha hbb ho hv hw hs h1 h2 h3 h4⟩
                · exact h.elim
              · rename_i i n v hv hw
                split at h
                · rename_i e' z' els fl rd news hi hs
                  obtain ⟨_, h1, rfl, rfl, h4, h5, h6, h7, h8, h9⟩ := h
                  refine ⟨_, _, _, _, h9, fun k hk => ?_, fun k hk => ?_, opt_app hu hz hz0 ha hbb ho hv hw hi hs h1 h4 h5 h6 h7 h8⟩
                  all_goals simp at hk
                  · rw [get_cons_ne (by simpa using hk.2), get_cons_ne (by simpa using hk.1)]
                  · rcases hk with rfl | rfl <;> simp [get] <;> split <;> rfl
                · exact h.elim
              · exact h.elim
          · cases hc
        · cases hc
      · cases hc
    · cases hc
  · -- copy
    rename_i hb
    split at hc
    · rename_i x y t u hx ht
      have e := args_two hb hx ht
      rw [e] at ho
      split at hc
      · rename_i e0 a b hu ha hbb
        split at hc
        · rename_i hz
          injection hc with hc; subst hc
          simp only [mev] at h
          split at h
          · rename_i i j p n v hv hw
            split at h
            · rename_i e' z els fl rd news hi hs
              split at h
              · rename_i el hj
                obtain ⟨h1, h2, h3, h4, h5⟩ := h
                exact ⟨_, _, _, _, h5, fun k hk => get_cons_ne hk, fun k hk => get_cons_some hk, opt_cpy hu hz ha hbb ho hv hw hi hs hj h1 h2 h3 h4⟩
              · exact h.elim
            · exact h.elim
          · exact h.elim
        · cases hc
      · cases hc
    · cases hc
  · -- min
    rename_i hb
    split at hc
    · rename_i x y hx
      have e := args_two' hb hx
      rw [e] at ho
      split at hc
      · rename_i a b ha hbb
        injection hc with hc; subst hc
        simp only [mev] at h
        split at h
        · rename_i k n k' n' h1 h2
          exact found_pure h (opt_mn ha hbb ho h1 h2)
        · exact h.elim
      · cases hc
    · cases hc
  · -- max
    rename_i hb
    split at hc
    · rename_i x y hx
      have e := args_two' hb hx
      rw [e] at ho
      split at hc
      · rename_i a b ha hbb
        injection hc with hc; subst hc
        simp only [mev] at h
        split at h
        · rename_i k n k' n' h1 h2
          exact found_pure h (opt_mx ha hbb ho h1 h2)
        · exact h.elim
      · cases hc
    · cases hc
  · cases hc

theorem mev_found {m : MOp} (hc : compOp P o.op = some m) (h : mev F H d K m) : Found P o m F H K := by
  cases ho : o.op with
  | move x =>
    rw [ho] at hc
    obtain ⟨r, hr, rfl⟩ := map_some hc
    simp only [mev] at h
    split at h
    · rename_i v hv; exact found_pure h (opt_mv hr (.inl ho) hv)
    · exact h.elim
  | assign x =>
    rw [ho] at hc
    obtain ⟨r, hr, rfl⟩ := map_some hc
    simp only [mev] at h
    split at h
    · rename_i v hv; exact found_pure h (opt_mv hr (.inr ho) hv)
    · exact h.elim
  | pick c a b =>
    rw [ho] at hc
    simp only [compOp] at hc
    split at hc
    · rename_i rc ra rb h1 h2 h3
      injection hc with hc; subst hc
      simp only [mev] at h
      split at h
      · rename_i t ht
        split at h
        · rename_i v hv; exact found_pure h (opt_pick h1 h2 h3 ho ht hv)
        · exact h.elim
      · exact h.elim
    · cases hc
  | alloc e =>
    rw [ho] at hc
    simp only [compOp] at hc
    split at hc
    · rename_i z by_ zero hz
      injection hc with hc; subst hc
      simp only [mev] at h
      exact ⟨_, _, _, _, h.2.2, fun k hk => get_cons_ne hk, fun k hk => get_cons_some hk, opt_alloc hz ho h.2.1 _ (tyZ_closed hz)⟩
    · cases hc
  | box e x =>
    rw [ho] at hc
    simp only [compOp] at hc
    split at hc
    · rename_i z a hz ha
      injection hc with hc; subst hc
      simp only [mev] at h
      split at h
      · rename_i v hv
        split at h
        · rename_i cs hcs
          exact ⟨_, _, _, _, h.2.2, fun k hk => get_cons_ne hk, fun k hk => get_cons_some hk, opt_box hz ha ho h.2.1 hv hcs h.1⟩
        · exact h.elim
      · exact h.elim
    · cases hc
  | build t parts =>
    rw [ho] at hc
    simp only [compOp] at hc
    split at hc
    · rename_i fields n by_ zero hu hz
      split at hc
      · rename_i ps hp
        split at hc
        · rename_i hall
          injection hc with hc; subst hc
          simp only [mev] at h
          split at h
          · rename_i cs hcs; exact found_pure h (opt_build_struct hu hz hp hall ho hcs)
          · exact h.elim
        · cases hc
      · cases hc
    · rename_i len e n by_ zero hu hz
      split at hc
      · rename_i m hm
        split at hc
        · rename_i ps hp
          injection hc with hc; subst hc
          simp only [mev] at h
          split at h
          · rename_i cs hcs; exact found_pure h (opt_build_array hu hz hm hp ho hcs)
          · exact h.elim
        · cases hc
      · cases hc
    · cases hc
  | buildSlice t len parts =>
    rw [ho] at hc
    simp only [compOp] at hc
    split at hc
    · rename_i e hu
      split at hc
      · rename_i z by_ zero ps hz hp
        split at hc
        · rename_i hl
          injection hc with hc; subst hc
          simp only [mev] at h
          split at h
          · rename_i l hf
            exact ⟨_, _, _, _, h.2.2, fun k hk => get_cons_ne hk, fun k hk => get_cons_some hk, opt_bslice hu hz hp hl.1 hl.2.1 hl.2.2 ho h.2.1 hf⟩
          · exact h.elim
        · cases hc
      · cases hc
    · cases hc
  | load t x =>
    rw [ho] at hc
    simp only [compOp] at hc
    split at hc
    · rename_i g n a hg hz ha
      injection hc with hc; subst hc
      exact found_read (opt_ld hg hz ha ho (K := fun v rd => K v rd [] H) h)
    · cases hc
  | store t x v =>
    rw [ho] at hc
    simp only [compOp] at hc
    split at hc
    · rename_i n a b hz ha hb
      injection hc with hc; subst hc
      simp only [mev] at h
      split at h
      · rename_i i j p u hv hu
        split at h
        · rename_i e z els fl cs hi hcs
          split at h
          · rename_i el hj
            exact ⟨_, _, _, _, h.2.2, fun k hk => get_cons_ne hk, fun k hk => get_cons_some hk, opt_st hz ha hb ho hv hu hi hcs hj h.1 h.2.1⟩
          · exact h.elim
        · exact h.elim
      · exact h.elim
    · cases hc
  | nilCheck x =>
    rw [ho] at hc
    obtain ⟨r, hr, rfl⟩ := map_some hc
    simp only [mev] at h
    split at h
    · rename_i i j p hv; exact found_pure h (opt_nilc hr ho hv (.inl ⟨_, _, _, rfl⟩))
    · rename_i cs hv; exact found_pure h (opt_nilc hr ho hv (.inr ⟨_, rfl⟩))
    · exact h.elim
  | binOp op t x y yt =>
    rw [ho] at hc
    simp only [compOp] at hc
    split at hc
    · split at hc
      · rename_i a b ha hb
        injection hc with hc; subst hc
        simp only [mev] at h
        split at h
        · rename_i k n k' n' h1 h2
          exact found_pure' (opt_bin ha hb ho h1 h2 h)
        · exact h.elim
      · cases hc
    · split at hc
      · rename_i hbt
        have ht : P.underlying t = some .bool := by
          unfold isBoolT at hbt
          split at hbt
          · assumption
          · cases hbt
        split at hc
        · rename_i a b ha hb
          injection hc with hc; subst hc
          simp only [mev] at h
          split at h
          · rename_i u v h1 h2
            exact found_pure h (opt_beq (neg := false) ha hb ho ht h1 h2)
          · exact h.elim
        · rename_i a b ha hb
          injection hc with hc; subst hc
          simp only [mev] at h
          split at h
          · rename_i u v h1 h2
            exact found_pure h (opt_beq (neg := true) ha hb ho ht h1 h2)
          · exact h.elim
        · cases hc
      · split at hc
        · rename_i sl a hn ha
          injection hc with hc; subst hc
          exact found_pure' (opt_isnil (neg := false) ha ho hn (K := fun v => K v [] [] H) rfl h)
        · rename_i sl a hn ha
          injection hc with hc; subst hc
          exact found_pure' (opt_isnil (neg := true) ha ho hn (K := fun v => K v [] [] H) rfl h)
        · cases hc
  | unOp op t x =>
    rw [ho] at hc
    obtain ⟨r, hr, rfl⟩ := map_some hc
    exact found_pure' (opt_un hr (K := fun v => K v [] [] H) h ho)
  | convert src dst x =>
    rw [ho] at hc
    simp only [compOp] at hc
    split at hc
    · rename_i ks k h1 h2
      obtain ⟨r, hr, rfl⟩ := map_some hc
      simp only [mev] at h
      split at h
      · rename_i k' n hv; exact found_pure h (opt_cvt hr ho h1 h2 hv)
      · exact h.elim
    · cases hc
  | makeFunc fn first captured =>
    rw [ho] at hc
    simp only [compOp] at hc
    split at hc
    · rename_i hf
      obtain ⟨rs, hr, rfl⟩ := map_some hc
      simp only [mev] at h
      split at h
      · rename_i vs hv; exact found_pure h (opt_mkfn hf hr ho hv)
      · exact h.elim
    · cases hc
  | makeSlice t l c =>
    rw [ho] at hc
    simp only [compOp] at hc
    split at hc
    · rename_i e hu
      split at hc
      · rename_i z by_ zero a b hz ha hb
        split at hc
        · cases hc
        · rename_i hz0
          injection hc with hc; subst hc
          simp only [mev] at h
          split at h
          · rename_i n n' h1 h2
            obtain ⟨_, hd, h0, rfl, h63, hby, h⟩ := h
            exact ⟨_, _, _, _, h, fun k hk => get_cons_ne hk, fun k hk => get_cons_some hk, opt_mksl hu hz hz0 ha hb ho hd (tyZ_closed hz) h1 h2 h0 h63 hby⟩
          · exact h.elim
      · cases hc
    · cases hc
  | slice t x lo hi mx =>
    rw [ho] at hc
    cases mx with
    | some q => simp [compOp] at hc
    | none =>
      simp only [compOp] at hc
      split at hc
      · rename_i e a l h' hu ha hl hh
        split at hc
        · rename_i z hz
          split at hc
          · cases hc
          · injection hc with hc; subst hc
            exact found_read (opt_slc hu hz ha hl hh ho (K := fun v rd => K v rd [] H) h)
        · cases hc
      · rename_i n e a l h' hu ha hl hh
        split at hc
        · rename_i hz
          injection hc with hc; subst hc
          simp only [mev] at h
          split at h
          · rename_i i j p hv
            split at h
            · rename_i l0 h0 h1 h2
              obtain ⟨g1, g2, g3, g4, g5⟩ := h
              exact found_pure g5 (opt_slarr hu hz ha hl hh ho hv h1 h2 g1 g2 g3 g4)
            · exact h.elim
          · exact h.elim
        · cases hc
      · cases hc
  | fieldAddr s x f =>
    rw [ho] at hc
    simp only [compOp] at hc
    split at hc
    · rename_i fields a hu ha
      split at hc
      · rename_i fd hf
        split at hc
        · rename_i n hz
          split at hc
          · cases hc
          · rename_i hn
            injection hc with hc; subst hc
            exact found_pure' (opt_fa hu hf hz hn ha ho (K := fun v => K v [] [] H) h)
        · cases hc
      · cases hc
    · cases hc
  | field t x f =>
    rw [ho] at hc
    simp only [compOp] at hc
    split at hc
    · rename_i fields a hu ha
      split at hc
      · rename_i fd hf
        split at hc
        · rename_i g n hg hz
          injection hc with hc; subst hc
          exact found_pure' (opt_fld hu hf hg hz ha ho (K := fun v => K v [] [] H) h)
        · cases hc
      · cases hc
    · cases hc
  | indexAddr t x i =>
    rw [ho] at hc
    simp only [compOp] at hc
    split at hc
    · rename_i e a b hu ha hb
      split at hc
      · rename_i z hz
        injection hc with hc; subst hc
        exact found_read (opt_ixsl hu hz ha hb ho (K := fun v rd => K v rd [] H) h)
      · cases hc
    · rename_i n e a b hu ha hb
      split at hc
      · rename_i z hz
        injection hc with hc; subst hc
        exact found_pure' (opt_ixarr hu hz ha hb ho (K := fun v => K v [] [] H) h)
      · cases hc
    · cases hc
  | index t x i =>
    rw [ho] at hc
    simp only [compOp] at hc
    split at hc
    · rename_i n e a b hu ha hb
      split at hc
      · rename_i g z hg hz
        injection hc with hc; subst hc
        exact found_pure' (opt_ixval hu hg hz ha hb ho (K := fun v => K v [] [] H) h)
      · cases hc
    · cases hc
  | extract x i =>
    rw [ho] at hc
    obtain ⟨r, hr, rfl⟩ := map_some hc
    simp only [mev] at h
    split at h
    · rename_i vs hv
      split at h
      · rename_i v hi; exact found_pure h (opt_ext hr ho hv hi)
      · exact h.elim
    · exact h.elim
  | call c =>
    rw [ho] at hc
    exact found_call ho hc h
  | makeMap t r =>
    rw [ho] at hc
    cases r with
    | none =>
      simp only [compOp] at hc
      injection hc with hc; subst hc
      simp only [mev] at h
      exact ⟨_, _, _, _, h.2, fun k hk => get_cons_ne hk, fun k hk => get_cons_some hk, opt_mkmap ho h.1 _⟩
    | some r => simp [compOp] at hc
  | mapUpdate t m k v =>
    rw [ho] at hc
    simp only [compOp] at hc
    split at hc
    · rename_i ht
      split at hc
      · rename_i a b c ha hb hc'
        injection hc with hc; subst hc
        simp only [mev] at h
        split at h
        · rename_i i n u h1 h2 h3
          split at h
          · rename_i ks hi
            exact ⟨_, _, _, _, h, fun k hk => get_cons_ne hk, fun k hk => get_cons_some hk, opt_mapadd ht ha hb hc' ho h1 h2 h3 hi⟩
          · exact h.elim
        · exact h.elim
      · cases hc
    · cases hc
  | _ => rw [ho] at hc; simp [compOp] at hc

end
end Go.Proofs.Ytadjdnhnbkcakaa
