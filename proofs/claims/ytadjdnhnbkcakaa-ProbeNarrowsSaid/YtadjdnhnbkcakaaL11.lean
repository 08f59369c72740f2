/-
  Every operation that is no call: from 'mev' to what it owes.
-/
import Derived.Test.YtadjdnhnbkcakaaL10
namespace Go.Proofs.Ytadjdnhnbkcakaa
open Go.RowKit

theorem convL_closed {f : Value → Option AV} (hf : ∀ v x, f v = some x → closedV x = true) : ∀ (l : List Value) (xs : List AV), convL f l = some xs → closedL xs = true
  | [], xs, h => by simp [convL] at h; subst h; rfl
  | v :: l, xs, h => by
    simp only [convL] at h
    split at h
    · split at h
      · rename_i x xs' hx hxs
        injection h with h; subst h
        simp [closedL, hf v x hx, convL_closed hf l xs' hxs]
      · cases h
    · cases h

theorem conv_closed : ∀ (n : Nat) (v : Value) (x : AV), conv n v = some x → closedV x = true := by
  intro n
  induction n with
  | zero =>
    intro v x h
    unfold conv at h
    split at h <;> first | (injection h with h; subst h; rfl) | (cases h; done) | (rename_i h0; cases h0)
  | succ n ih =>
    intro v x h
    unfold conv at h
    split at h <;> first | (injection h with h; subst h; rfl) | (cases h; done) | skip
    split at h
    · rename_i m C hq h0 cs hcs
      injection h with h; subst h
      simp only [closedV]
      cases hq
      exact convL_closed ih _ _ hcs
    · cases h

theorem acells_closed {v : AV} {cs : List AV} (h : acells v = some cs) (hv : closedV v = true) : closedL cs = true := by
  cases v <;> simp [acells] at h <;> subst h <;> simp_all [closedL, closedV]

section
variable {P : Program} {o : Oper} {F : List (Nat × AV)} {H : List (Nat × Ob)}

theorem tyZ_closed {e : TypeId} {z by_ : Nat} {zero : List AV} (h : tyZ P e = some (z, by_, zero)) : closedL zero = true := by
  unfold tyZ at h
  split at h
  · split at h
    · split at h
      · rename_i x hx
        split at h
        · rename_i cs hcs
          split at h
          · simp only [Option.some.injEq, Prod.mk.injEq] at h
            obtain ⟨rfl, rfl, rfl⟩ := h
            exact acells_closed hcs (conv_closed 2 _ x hx)
          · cases h
        · cases h
      · cases h
    · cases h
  · cases h

theorem opt_app_nil {t e : TypeId} {z by_ d : Nat} {zero : List AV} {x y : Operand} {rx ry : Arg} {v : AV} {rd : List Nat} {news : List (List AV)} (ht : P.underlying t = some (.slice e)) (hz : tyZ P e = some (z, by_, zero)) (hz0 : z ≠ 0)
    (hx : carg x = some rx) (hy : carg y = some ry) (ho : o.op = .call { callee := .builtin .append, args := #[x, y], argTypes := #[t, t] }) (hv : aarg F rx = some .nils) (hu : aarg F ry = some v)
    (hs : srcOf H z v = some (rd, news)) (hd : get H d = none) (hn : ∀ el ∈ news, el.length = z) (hb : news.length * by_ ≤ 140737488355328) (h63 : news.length ≤ 9223372036854775807) :
    OpT P o (rx.slots ++ ry.slots) F H rd [d] (.sl d 0 news.length) ((d, .cells e z news (flatE news)) :: H) := by
  have q := OpT.appended (P := P) (o := o) (F := F) (H := H) (ts := rx.slots ++ ry.slots) (d := d) (e := e) (z := z) (n := 0) (rd := rd) (old := none) (els := []) (news := news) (fl := true)
    (H1 := (d, .cells e z news (flatE news)) :: H) hd hz0 (fun k => by
      by_cases h : d = k
      · simp [get, h]
      · simp [get, h, Ne.symm h]) (fun k h => by cases h) rfl hn [d] (fun k => by simp)
    (fun S ρ a w hF hS hH => by
      have e1 := (carg_ok hx hF (fun _ h => by simp [h]) hv).nils_inv
      obtain ⟨A, cap, D, e2, e3, hD, hA⟩ := src_ok (P := P) (by omega) hs hn (carg_ok hy hF (fun _ h => by simp [h]) hu) hH (fun k hk => .inl hk)
      have hDl : D.size = news.length * z := by rw [hD.1]; exact length_flatten_u news hn
      obtain ⟨v', w', hr, h2, h3, h4⟩ := run_append_any (ty := o.type) ht hz hz0 w (.slice none 0 0) 0 [] (World.ownsRow_nil w 0 e z) A news.length cap D hDl (oneCell_of_cellsR hD)
        (fun hm => hA fun e => by subst e; simp at hm) (by unfold maxLen; omega) (by rw [Nat.zero_add]; exact hb)
      refine ⟨.slice none 0 0, [], D, v', w', World.ownsRow_nil w 0 e z, hD, ?_, by simpa using h2, h3, h4, fun b h => (by cases h), fun j el h => (by simp at h), fun j el k u h => (by simp at h)⟩
      simp [execOp, ho, e1, e2, resolve, invoke, builtin, hr])
  simpa using q

theorem opt_app {t e : TypeId} {z by_ d i n : Nat} {zero : List AV} {x y : Operand} {rx ry : Arg} {v : AV} {rd : List Nat} {els news : List (List AV)} {fl : Bool} (ht : P.underlying t = some (.slice e)) (hz : tyZ P e = some (z, by_, zero)) (hz0 : z ≠ 0)
    (hx : carg x = some rx) (hy : carg y = some ry) (ho : o.op = .call { callee := .builtin .append, args := #[x, y], argTypes := #[t, t] }) (hv : aarg F rx = some (.sl i 0 n)) (hu : aarg F ry = some v)
    (hi : get H i = some (.cells e z els fl)) (hs : srcOf H z v = some (rd, news)) (hd : get H d = none) (hl : els.length = n) (hird : i ∉ rd) (hn : ∀ el ∈ news, el.length = z)
    (hb : (n + news.length) * by_ ≤ 140737488355328) (h63 : n + news.length ≤ 9223372036854775807) :
    OpT P o (rx.slots ++ ry.slots) F H rd [i, d] (.sl d 0 (n + news.length)) ((d, .cells e z (els ++ news) (fl && flatE news)) :: (i, .dead) :: H) := by
  have hdi : d ≠ i := fun h => by subst h; rw [hd] at hi; cases hi
  refine OpT.appended (e := e) (n := n) (old := some i) (els := els) (news := news) (fl := fl) hd hz0 (fun k => ?_) (fun k h => ?_) hl hn [i, d] (fun k => by simp; exact ⟨fun h => h.symm, fun h => h.symm⟩) (fun S ρ a w hF hS hH => ?_)
  · by_cases h1 : d = k
    · simp [get, h1]
    · by_cases h2 : i = k
      · simp [get, h1, h2, Ne.symm h1]
      · simp [get, h1, h2, Ne.symm h1, Ne.symm h2]
  · injection h with h; subst h; exact ⟨hird, _, hi, rfl⟩
  · obtain ⟨A, cap, D, e2, e3, hD, hA⟩ := src_ok (P := P) (by omega) hs hn (carg_ok hy hF (fun _ h => by simp [h]) hu) hH (fun k hk => .inl hk)
    have hDl : D.size = news.length * z := by rw [hD.1]; exact length_flatten_u news hn
    have run : ∀ (s : Value) (xs : List Value), a.eval x = s → w.ownsRow 0 e z s n xs → ∃ v' w', (execOp a.eval o).run P w = .ok (.value v') w' ∧ w'.ownsRow 0 e z v' (n + news.length) (xs ++ D.toList) ∧ w.grownBy w' s.ownBlock ∧
        (v'.ownBlock = s.ownBlock ∨ v'.ownBlock = some w.heap.size) := fun s xs e1 hown => by
      obtain ⟨v', w', hr, h2⟩ := run_append_any (ty := o.type) ht hz hz0 w s n xs hown A news.length cap D hDl (oneCell_of_cellsR hD)
        (fun hm => hA fun e => by subst e; simp at hm) (by unfold maxLen; omega) hb
      exact ⟨v', w', by simp [execOp, ho, e1, e2, resolve, invoke, builtin, hr], h2⟩
    rcases (carg_ok hx hF (fun _ h => by simp [h]) hv).sl_inv with ⟨b, z0, cap', cap'', hρ, hc, hnc, e1⟩ | ⟨z0, hρ, _, rfl, e1⟩
    · obtain ⟨bk1, z1, c1, q1, q0, q2⟩ := hH.ob i _ (by simp) hi
      rw [hρ] at q1
      injection q1 with q1
      obtain ⟨rfl, rfl, rfl⟩ : some b = bk1 ∧ z0 = z1 ∧ cap' = c1 := by simpa using q1
      subst q0
      obtain ⟨hs', hm, C, hC, f1, f2, f3, f4⟩ := q2
      obtain rfl : cap'' = cap' := by omega
      have hnz : n * z ≤ C.size := by rw [f1]; exact Nat.mul_le_mul_right _ hnc
      have hown : w.ownsRow 0 e z (.slice (some ⟨b, 0, none⟩) n cap'') n (C.toList.take (n * z)) :=
        ⟨by simp; omega, .inr ⟨b, cap'', C, rfl, Nat.zero_le _, hC, hnc, hm, f1, rfl⟩⟩
      obtain ⟨v', w', g1, g2, g3, g4⟩ := run _ _ (by rw [e1]; simp) hown
      refine ⟨_, _, D, v', w', hown, hD, g1, g2, g3, g4, fun b' hb' => ?_, f3, fun j el k u hj hk => ?_⟩
      · simp [Value.ownBlock] at hb'
        subst hb'
        exact ⟨i, _, z, cap'', rfl, hi, rfl, hρ⟩
      · obtain ⟨p1, p2⟩ := f4 j el k u hj hk
        have hjl : j < els.length := (List.getElem?_eq_some_iff.1 hj).1
        have hkl : k < z := Nat.lt_of_lt_of_le (List.getElem?_eq_some_iff.1 hk).1 (f3 j el hj)
        have hlt : j * z + k < n * z := by
          calc j * z + k < j * z + z := by omega
            _ = (j + 1) * z := by rw [Nat.add_mul, Nat.one_mul]
            _ ≤ n * z := Nat.mul_le_mul_right _ (by omega)
        refine ⟨C.getD (j * z + k) undef, ?_, p1, p2⟩
        rw [List.getElem?_take, if_pos hlt]
        have := getD_some (C := C) (j := j * z + k) (by omega)
        simpa using this
    · have hel : els = [] := List.eq_nil_of_length_eq_zero hl
      subst hel
      have hown := World.ownsRow_nil w 0 e z
      obtain ⟨v', w', g1, g2, g3, g4⟩ := run _ _ e1 hown
      exact ⟨_, _, D, v', w', hown, hD, g1, g2, g3, g4, fun b' hb' => (by simp [Value.ownBlock] at hb'), fun j el h => (by simp at h), fun j el k u h => (by simp at h)⟩

def MOp.slots : MOp → List Nat
  | .mv x => x.slots
  | .pick c a b => c.slots ++ a.slots ++ b.slots
  | .alloc .. => []
  | .box _ _ x => x.slots
  | .build _ ps => aslots (ps.map (·.2.2))
  | .bslice _ _ _ _ ps => aslots (ps.map (·.2))
  | .ld _ _ x => x.slots
  | .st _ x v => x.slots ++ v.slots
  | .nilc x => x.slots
  | .bin _ x y => x.slots ++ y.slots
  | .un _ x => x.slots
  | .cvt _ x => x.slots
  | .mkfn _ caps => aslots caps
  | .mksl _ _ _ _ l c => l.slots ++ c.slots
  | .slc _ x lo hi => x.slots ++ oslots lo ++ oslots hi
  | .slarr _ x lo hi => x.slots ++ oslots lo ++ oslots hi
  | .fa _ x => x.slots
  | .fld _ _ _ x => x.slots
  | .ixsl _ x i => x.slots ++ i.slots
  | .ixarr _ _ x i => x.slots ++ i.slots
  | .ixval _ _ _ x i => x.slots ++ i.slots
  | .ext x _ => x.slots
  | .len x => x.slots
  | .lenc _ => []
  | .app _ _ _ _ s x => s.slots ++ x.slots
  | .cpy d s => d.slots ++ s.slots
  | .mn x y => x.slots ++ y.slots
  | .mx x y => x.slots ++ y.slots
  | .call _ args => aslots args
  | .callv f args => f.slots ++ aslots args
  | .isnil _ _ x => x.slots
  | .beq _ x y => x.slots ++ y.slots
  | .mkmap => []
  | .mapadd m k v => m.slots ++ k.slots ++ v.slots
  | .lenm x => x.slots

/-- What 'mev' has found. -/
def Found (P : Program) (o : Oper) (m : MOp) (F : List (Nat × AV)) (H : List (Nat × Ob)) (K : AV → List Nat → List Nat → List (Nat × Ob) → Prop) : Prop :=
  ∃ v rd wr H1, K v rd wr H1 ∧ (∀ i, i ∉ wr → get H1 i = get H i) ∧ (∀ i, i ∈ wr → (get H1 i).isSome = true) ∧ OpT P o m.slots F H rd wr v H1

theorem get_cons_ne {α : Type} {i k : Nat} {x : α} {L : List (Nat × α)} (h : k ∉ [i]) : get ((i, x) :: L) k = get L k := by
  have : ¬ i = k := fun e => h (by simp [e])
  simp [get, this]

theorem get_cons_some {α : Type} {i k : Nat} {x : α} {L : List (Nat × α)} (h : k ∈ [i]) : (get ((i, x) :: L) k).isSome = true := by
  have : k = i := by simpa using h
  subst this
  simp [get]

end
end Go.Proofs.Ytadjdnhnbkcakaa
