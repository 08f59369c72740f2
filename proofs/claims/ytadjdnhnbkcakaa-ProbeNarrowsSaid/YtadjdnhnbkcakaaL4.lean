/-
  More operations that leave the world alone: fields, elements, lengths, loads, cuts.
-/
import Derived.Test.YtadjdnhnbkcakaaL3
namespace Go.Proofs.Ytadjdnhnbkcakaa
open Go.RowKit

section
variable {P : Program} {o : Oper} {F : List (Nat × AV)} {H : List (Nat × Ob)}

theorem info_of_sizeP {t : TypeId} {n : Nat} (h : sizeP P t = some n) : ∃ i, P.info? t = some i ∧ i.size = n := by
  unfold sizeP at h
  cases hi : P.info? t with
  | none => simp [hi] at h
  | some i => simp [hi] at h; exact ⟨i, rfl, h⟩

theorem run_sizeOfP {t : TypeId} {n : Nat} (h : sizeP P t = some n) (w : World) : (sizeOf t).run P w = .ok n w := by
  obtain ⟨i, hi, hn⟩ := info_of_sizeP h
  simp [sizeOf, typeInfo, hi, hn]

theorem run_isAggP {t : TypeId} {g : Bool} (h : aggP P t = some g) (w : World) : (isAgg t).run P w = .ok g w := by
  unfold aggP at h
  cases hu : P.underlying t with
  | none => simp [hu] at h
  | some d => cases d <;> simp [hu] at h <;> subst h <;> simp [isAgg, run_underlying hu]

theorem opt_cvt {src dst : TypeId} {x : Operand} {r : Arg} {k ks : IntKind} (hx : carg x = some r) (ho : o.op = .convert src dst x) (h1 : P.underlying src = some (.int ks)) (h2 : P.underlying dst = some (.int k))
    {k' : IntKind} {n : Int} (hv : aarg F r = some (.int k' n)) : OpT P o r.slots F H [] [] (.int k (k.wrap n)) H :=
  OpT.pure fun S ρ a w hF _ => by
    have e := (carg_ok hx hF (fun _ h => h) hv).int_inv
    exact ⟨.int k (k.wrap n), by simp [execOp, ho, e, convert, run_underlying h1, run_underlying h2, Conv.intToInt], .cl (.int _ _)⟩

/-- The slots of some arguments. -/
def aslots : List Arg → List Nat
  | [] => []
  | x :: l => x.slots ++ aslots l

theorem cargs_ok {ts : List Nat} {a : Act} {w : World} {S : Nat → Prop} {ρ : Rho} (hF : FRs ts F a w S ρ) : ∀ (l : List Operand) (rs : List Arg) (vs : List AV), cargs l = some rs →
    (∀ t, t ∈ aslots rs → t ∈ ts) → aargs F rs = some vs → (l.map a.eval).length = vs.length ∧ ∀ j v, vs[j]? = some v → VR w S ρ v ((l.map a.eval).toArray.getD j undef)
  | [], rs, vs, h, _, hv => by
    simp [cargs] at h; subst h
    simp [aargs] at hv; subst hv
    simp
  | x :: l, rs, vs, h, hs, hv => by
    simp only [cargs] at h
    split at h
    · rename_i r rs' hx hl
      injection h with h; subst h
      simp only [aargs] at hv
      split at hv
      · rename_i v vs' h1 h2
        injection hv with hv; subst hv
        obtain ⟨e1, e2⟩ := cargs_ok hF l rs' vs' hl (fun t ht => hs t (by simp [aslots, ht])) h2
        refine ⟨by simpa using e1, fun j u hu => ?_⟩
        cases j with
        | zero => simp at hu; subst hu; simpa using carg_ok hx hF (fun t ht => hs t (by simp [aslots, ht])) h1
        | succ j => simpa using e2 j u (by simpa using hu)
      · cases hv
    · cases h

theorem opt_mkfn {fn : Fn} {first captured : Array Operand} {rs : List Arg} (hf : first.size = 0) (hc : cargs captured.toList = some rs) (ho : o.op = .makeFunc fn first captured)
    {vs : List AV} (hv : aargs F rs = some vs) : OpT P o (aslots rs) F H [] [] (.fn fn vs) H :=
  OpT.pure fun S ρ a w hF _ => by
    obtain ⟨e1, e2⟩ := cargs_ok hF _ _ _ hc (fun _ h => h) hv
    have h0 : first = #[] := Array.size_eq_zero_iff.1 hf
    refine ⟨.func fn #[] (captured.map a.eval), by simp [execOp, ho, h0, Instr.makeFunc], .fn fn vs _ (by simpa using e1) fun j v h => ?_⟩
    have := e2 j v h
    have e : (captured.map a.eval) = (captured.toList.map a.eval).toArray := by rw [← Array.toList_map, Array.toArray_toList]
    rw [e]; exact this

theorem run_fieldPlace {a : Addr} {f : Field} {n : Nat} (h : sizeP P f.type = some n) (hn : n ≠ 0) (w : World) : (fieldPlace a f).run P w = .ok (a.add f.offset) w := by
  simp [fieldPlace, run_sizeOfP h, hn]

theorem add_lit (b off k : Nat) : (⟨b, off, none⟩ : Addr).add k = ⟨b, off + k, none⟩ := by unfold Addr.add; split <;> simp_all

theorem opt_fa {s : TypeId} {fields : Array Field} {fd : Field} {f n : Nat} {x : Operand} {r : Arg} (hs : P.underlying s = some (.struct fields)) (hf : fields[f]? = some fd) (hz : sizeP P fd.type = some n)
    (hn : n ≠ 0) (hx : carg x = some r) (ho : o.op = .fieldAddr s x f) {K : AV → Prop}
    (h : match aarg F r with
      | some (.ptr i j p) => K (.ptr i j (p + fd.offset))
      | some (.rp cs) => K (.rp (cs.drop fd.offset))
      | _ => False) : ∃ v, K v ∧ OpT P o r.slots F H [] [] v H := by
  split at h
  · rename_i i j p hv
    refine ⟨_, h, OpT.pure fun S ρ a w hF _ => ?_⟩
    obtain ⟨b, z, cap, hρ, e⟩ := (carg_ok hx hF (fun _ h => h) hv).ptr_inv
    refine ⟨.pointer (some ⟨b, j * z + (p + fd.offset), none⟩), ?_, .ptr _ _ _ b z cap hρ⟩
    simp [execOp, ho, e, Instr.fieldAt, run_underlying hs, hf, Instr.sureAddr, run_fieldPlace hz hn, add_lit, Nat.add_assoc]
  · rename_i cs hv
    refine ⟨_, h, OpT.pure fun S ρ a w hF _ => ?_⟩
    obtain ⟨b, off, cf, e, hS, h1, h2⟩ := (carg_ok hx hF (fun _ h => h) hv).rp_inv
    refine ⟨.pointer (some ⟨b, off + fd.offset, none⟩), ?_, .cl (.rp _ b _ (fun k => cf (fd.offset + k)) hS (fun k v hk => ?_) (fun k v hk => ?_))⟩
    · simp [execOp, ho, e, Instr.fieldAt, run_underlying hs, hf, Instr.sureAddr, run_fieldPlace hz hn, add_lit]
    · rw [List.getElem?_drop] at hk
      rw [Nat.add_assoc]; exact h1 _ v hk
    · rw [List.getElem?_drop] at hk
      exact h2 _ v hk
  · exact h.elim

theorem getD_extract (C : Array Value) (a n j : Nat) (hj : j < n) (h : a + n ≤ C.size) : (C.extract a (a + n)).getD j undef = C.getD (a + j) undef := by
  have h1 : j < (C.extract a (a + n)).size := by simp; omega
  have h2 : a + j < C.size := by omega
  simp only [Array.getD_eq_getD_getElem?, Array.getElem?_eq_getElem h1, Array.getElem?_eq_getElem h2, Option.getD_some, Array.getElem_extract]

/-- A part of an aggregate. -/
theorem part_agg {w : World} {S : Nat → Prop} {ρ : Rho} {cs : List AV} {C : Array Value} (hn : C.size = cs.length) (h1 : ∀ j v, cs[j]? = some v → (C.getD j undef).oneCell' = true)
    (h : ∀ j v, cs[j]? = some v → VR w S ρ v (C.getD j undef)) {off n : Nat} (hb : off + n ≤ cs.length) : VR w S ρ (.agg ((cs.drop off).take n)) (.agg (C.extract off (off + n))) := by
  refine .agg _ _ (by simp; omega) (fun j v hv => ?_) (fun j v hv => ?_)
  all_goals
    have hj : j < n := by
      have := (List.getElem?_eq_some_iff.1 hv).1
      simp at this; omega
    rw [List.getElem?_take, if_pos hj, List.getElem?_drop] at hv
    rw [getD_extract C off n j hj (by omega)]
  · exact h1 _ v hv
  · exact h _ v hv

theorem getD_some {C : Array Value} {j : Nat} (h : j < C.size) : C[j]? = some (C.getD j undef) := by simp [Array.getD, h]

theorem run_part {ty : TypeId} {g : Bool} {n : Nat} (hg : aggP P ty = some g) (hz : sizeP P ty = some n) (w : World) (C : Array Value) (off : Nat) (hb : off < C.size ∨ g = true) :
    (part ty C off).run P w = .ok (if g = true then .agg (C.extract off (off + n)) else C.getD off undef) w := by
  cases g with
  | true => simp [part, run_isAggP hg, run_sizeOfP hz]
  | false =>
    have h1 : off < C.size := by simpa using hb
    simp [part, run_isAggP hg, Array.getElem?_eq_getElem h1, Array.getD, h1]

theorem opt_fld {t : TypeId} {fields : Array Field} {fd : Field} {f n : Nat} {g : Bool} {x : Operand} {r : Arg} (hs : P.underlying t = some (.struct fields)) (hf : fields[f]? = some fd)
    (hg : aggP P fd.type = some g) (hz : sizeP P fd.type = some n) (hx : carg x = some r) (ho : o.op = .field t x f) {K : AV → Prop}
    (h : match aarg F r with
      | some (.agg cs) => if g = true then fd.offset + n ≤ cs.length ∧ K (.agg ((cs.drop fd.offset).take n)) else match cs[fd.offset]? with
        | some v => K v
        | none => False
      | _ => False) : ∃ v, K v ∧ OpT P o r.slots F H [] [] v H := by
  split at h
  · rename_i cs hv
    cases g with
    | true =>
      simp only [if_true] at h
      refine ⟨_, h.2, OpT.pure fun S ρ a w hF _ => ?_⟩
      obtain ⟨C, e, hn, h1, h2⟩ := (carg_ok hx hF (fun _ h => h) hv).agg_inv
      exact ⟨.agg (C.extract fd.offset (fd.offset + n)), by simp [execOp, ho, e, Instr.field, run_underlying hs, hf, asAgg, run_part hg hz], part_agg hn h1 h2 h.1⟩
    | false =>
      simp only [Bool.false_eq_true, if_false] at h
      split at h
      · rename_i v hv'
        refine ⟨v, h, OpT.pure fun S ρ a w hF _ => ?_⟩
        obtain ⟨C, e, hn, h1, h2⟩ := (carg_ok hx hF (fun _ h => h) hv).agg_inv
        have hl : fd.offset < C.size := by rw [hn]; exact (List.getElem?_eq_some_iff.1 hv').1
        exact ⟨C.getD fd.offset undef, by simp [execOp, ho, e, Instr.field, run_underlying hs, hf, asAgg, run_part hg hz, hl], h2 _ v hv'⟩
      · exact h.elim
  · exact h.elim

theorem opt_ixval {t e : TypeId} {len z : Nat} {g : Bool} {x i : Operand} {rx ri : Arg} (hs : P.underlying t = some (.array len e)) (hg : aggP P e = some g) (hz : sizeP P e = some z)
    (hx : carg x = some rx) (hi : carg i = some ri) (ho : o.op = .index t x i) {K : AV → Prop}
    (h : match aarg F rx, aarg F ri with
      | some (.agg cs), some (.int _ k) => 0 ≤ k ∧ k < len ∧ (if g = true then k.toNat * z + z ≤ cs.length ∧ K (.agg ((cs.drop (k.toNat * z)).take z)) else match cs[k.toNat * z]? with
        | some v => K v
        | none => False)
      | _, _ => False) : ∃ v, K v ∧ OpT P o (rx.slots ++ ri.slots) F H [] [] v H := by
  split at h
  · rename_i cs ik k hv hk
    obtain ⟨k0, k1, h⟩ := h
    cases g with
    | true =>
      simp only [if_true] at h
      refine ⟨_, h.2, OpT.pure fun S ρ a w hF _ => ?_⟩
      obtain ⟨C, e1, hn, h1, h2⟩ := (carg_ok hx hF (fun _ h => by simp [h]) hv).agg_inv
      have e2 := (carg_ok hi hF (fun _ h => by simp [h]) hk).int_inv
      exact ⟨.agg (C.extract (k.toNat * z) (k.toNat * z + z)), by simp [execOp, ho, e1, e2, Instr.index, asIntOf, run_underlying hs, k0, k1, run_sizeOfP hz, run_part hg hz], part_agg hn h1 h2 h.1⟩
    | false =>
      simp only [Bool.false_eq_true, if_false] at h
      split at h
      · rename_i v hv'
        refine ⟨v, h, OpT.pure fun S ρ a w hF _ => ?_⟩
        obtain ⟨C, e1, hn, h1, h2⟩ := (carg_ok hx hF (fun _ h => by simp [h]) hv).agg_inv
        have e2 := (carg_ok hi hF (fun _ h => by simp [h]) hk).int_inv
        have hl : k.toNat * z < C.size := by rw [hn]; exact (List.getElem?_eq_some_iff.1 hv').1
        exact ⟨C.getD (k.toNat * z) undef, by simp [execOp, ho, e1, e2, Instr.index, asIntOf, run_underlying hs, k0, k1, run_sizeOfP hz, run_part hg hz, hl], h2 _ v hv'⟩
      · exact h.elim
  · exact h.elim

theorem opt_ext {x : Operand} {r : Arg} {i : Nat} (hx : carg x = some r) (ho : o.op = .extract x i) {vs : List AV} (hv : aarg F r = some (.tup vs)) {v : AV} (hi : vs[i]? = some v) :
    OpT P o r.slots F H [] [] v H :=
  OpT.pure fun S ρ a w hF _ => by
    obtain ⟨C, e, hn, h2⟩ := (carg_ok hx hF (fun _ h => h) hv).tup_inv
    have hl : i < C.size := by rw [hn]; exact (List.getElem?_eq_some_iff.1 hi).1
    have hu := getD_some hl
    have h3 := h2 _ v hi
    generalize C.getD i undef = u at hu h3
    exact ⟨u, by simp [execOp, ho, e, Instr.extract, hu], h3⟩

theorem opt_len {t e : TypeId} {x : Operand} {r : Arg} (ht : P.underlying t = some (.slice e)) (hx : carg x = some r)
    (ho : o.op = .call { callee := .builtin .len, args := #[x], argTypes := #[t] }) {K : AV → Prop}
    (h : match aarg F r with
      | some (.rs _ els) => K (.int .i64 els.length)
      | some (.sl _ _ n) => K (.int .i64 n)
      | some (.sa _ _ _ n) => K (.int .i64 n)
      | some .nils => K (.int .i64 0)
      | _ => False) : ∃ v, K v ∧ OpT P o r.slots F H [] [] v H := by
  have run : ∀ (a : Act) (w : World) (A : Option Addr) (n c : Nat), a.eval x = .slice A n c → (execOp a.eval o).run P w = .ok (.value (.int .i64 n)) w := by
    intro a w A n c e
    simp [execOp, ho, e, resolve, invoke, builtin, Builtin.len_, run_underlying ht, goInt]
  split at h
  · rename_i z els hv
    refine ⟨_, h, OpT.pure fun S ρ a w hF _ => ?_⟩
    rcases (carg_ok hx hF (fun _ h => h) hv).rs_inv with ⟨rfl, A, c, e⟩ | ⟨b, off, cap, cf, e, _⟩
    · exact ⟨_, run a w _ _ _ e, .cl (.int _ _)⟩
    · exact ⟨_, run a w _ _ _ e, .cl (.int _ _)⟩
  · rename_i i j n hv
    refine ⟨_, h, OpT.pure fun S ρ a w hF _ => ?_⟩
    rcases (carg_ok hx hF (fun _ h => h) hv).sl_inv with ⟨b, z, cap, cap', _, _, _, e⟩ | ⟨z, _, _, rfl, e⟩
    · exact ⟨_, run a w _ _ _ e, .cl (.int _ _)⟩
    · exact ⟨_, run a w _ _ _ e, .cl (.int _ _)⟩
  · rename_i i j p n hv
    refine ⟨_, h, OpT.pure fun S ρ a w hF _ => ?_⟩
    obtain ⟨b, z, cap, cap', _, _, e⟩ := (carg_ok hx hF (fun _ h => h) hv).sa_inv
    exact ⟨_, run a w _ _ _ e, .cl (.int _ _)⟩
  · rename_i hv
    refine ⟨_, h, OpT.pure fun S ρ a w hF _ => ?_⟩
    exact ⟨_, run a w _ _ _ (carg_ok hx hF (fun _ h => h) hv).nils_inv, .cl (.int _ _)⟩
  · exact h.elim

theorem opt_lenc {t e : TypeId} {n : Nat} {x : Operand} (ht : P.underlying t = some (.array n e)) (ho : o.op = .call { callee := .builtin .len, args := #[x], argTypes := #[t] }) (ts : List Nat) :
    OpT P o ts F H [] [] (.int .i64 n) H :=
  OpT.pure fun S ρ a w hF _ => ⟨.int .i64 n, by simp [execOp, ho, resolve, invoke, builtin, Builtin.len_, run_underlying ht, goInt], .cl (.int _ _)⟩

theorem opt_mn {x y : Operand} {rx ry : Arg} {ats : Array TypeId} (hx : carg x = some rx) (hy : carg y = some ry) (ho : o.op = .call { callee := .builtin .min, args := #[x, y], argTypes := ats })
    {k k' : IntKind} {n m : Int} (h1 : aarg F rx = some (.int k n)) (h2 : aarg F ry = some (.int k' m)) : OpT P o (rx.slots ++ ry.slots) F H [] [] (.int k (min n m)) H :=
  OpT.pure fun S ρ a w hF _ => by
    have e1 := (carg_ok hx hF (fun _ h => by simp [h]) h1).int_inv
    have e2 := (carg_ok hy hF (fun _ h => by simp [h]) h2).int_inv
    have e : (if m < n then m else n) = min n m := by rw [Int.min_def]; split <;> split <;> omega
    exact ⟨.int k (min n m), by simp [execOp, ho, resolve, invoke, builtin, e1, e2, Builtin.min_, Builtin.min2, e], .cl (.int _ _)⟩

theorem opt_mx {x y : Operand} {rx ry : Arg} {ats : Array TypeId} (hx : carg x = some rx) (hy : carg y = some ry) (ho : o.op = .call { callee := .builtin .max, args := #[x, y], argTypes := ats })
    {k k' : IntKind} {n m : Int} (h1 : aarg F rx = some (.int k n)) (h2 : aarg F ry = some (.int k' m)) : OpT P o (rx.slots ++ ry.slots) F H [] [] (.int k (max n m)) H :=
  OpT.pure fun S ρ a w hF _ => by
    have e1 := (carg_ok hx hF (fun _ h => by simp [h]) h1).int_inv
    have e2 := (carg_ok hy hF (fun _ h => by simp [h]) h2).int_inv
    have e : (if m > n then m else n) = max n m := by rw [Int.max_def]; split <;> split <;> omega
    exact ⟨.int k (max n m), by simp [execOp, ho, resolve, invoke, builtin, e1, e2, Builtin.max_, Builtin.max2, e], .cl (.int _ _)⟩

end
end Go.Proofs.Ytadjdnhnbkcakaa
