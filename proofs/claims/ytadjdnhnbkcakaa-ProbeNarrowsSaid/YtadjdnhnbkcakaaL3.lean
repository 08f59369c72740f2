/-
  What an operation owes ('OpT'), and the operations that leave the world alone.
-/
import Derived.Test.YtadjdnhnbkcakaaL2
namespace Go.Proofs.Ytadjdnhnbkcakaa
open Go.RowKit

def Arg.slots : Arg → List Nat
  | .t n => [n]
  | .c _ => []

/-- The slots that are read hold what the frame says. -/
def FRs (ts : List Nat) (F : List (Nat × AV)) (a : Act) (w : World) (S : Nat → Prop) (ρ : Rho) : Prop :=
  ∀ t, t ∈ ts → ∀ v, get F t = some v → VR w S ρ v (a.tmps.getD t undef)

def OpT (P : Program) (o : Oper) (ts : List Nat) (F : List (Nat × AV)) (H : List (Nat × Ob)) (rd wr : List Nat) (v : AV) (H1 : List (Nat × Ob)) : Prop :=
  ∀ (S : Nat → Prop) (ρ : Rho) (a : Act) (w : World) (Q : Exit → Act → World → Prop) (K : Act → World → Prop), FRs ts F a w S ρ → (∀ b, S b → b < w.heap.size) →
    HRi (fun i => i ∈ rd ∨ i ∈ wr) w S ρ H → (∀ i, i ∈ wr → get H i = none → ρ i = none) →
    (∀ cv w' S' ρ', VR w' S' ρ' v cv → HRi (fun i => i ∈ rd ∨ i ∈ wr) w' S' ρ' H1 →
      Ext w S (LiveB ρ H fun i => i ∈ rd ∨ i ∈ wr) ρ w' S' (LiveB ρ' H1 fun i => i ∈ rd ∨ i ∈ wr) ρ' (fun i => i ∈ wr ∧ get H i = none) → K (a.put o.dst cv) w') →
    o.wp P a w K Q ∨ (o.asks P a w ∧ LetsOut Q)

section inv
variable {w : World} {S : Nat → Prop} {ρ : Rho} {c : Value}
theorem VR.int_inv {k : IntKind} {n : Int} (h : VR w S ρ (.int k n) c) : c = .int k n := by cases h with | cl h => cases h; rfl
theorem VR.bool_inv {b : Bool} (h : VR w S ρ (.bool b) c) : c = .bool b := by cases h with | cl h => cases h; rfl
theorem VR.nilp_inv (h : VR w S ρ .nilp c) : c = .pointer none := by cases h with | cl h => cases h; rfl
theorem VR.nils_inv (h : VR w S ρ .nils c) : c = .slice none 0 0 := by cases h with | cl h => cases h; rfl
theorem VR.und_inv (h : VR w S ρ .und c) : c = undef := by cases h with | cl h => cases h; rfl
theorem VR.ptr_inv {i j o : Nat} (h : VR w S ρ (.ptr i j o) c) : ∃ b z cap, ρ i = some (some b, z, cap) ∧ c = .pointer (some ⟨b, j * z + o, none⟩) := by
  cases h with
  | cl h => cases h
  | ptr _ _ _ b z cap h => exact ⟨b, z, cap, h, rfl⟩
theorem VR.sl_inv {i j n : Nat} (h : VR w S ρ (.sl i j n) c) : (∃ b z cap cap', ρ i = some (some b, z, cap) ∧ j + cap' = cap ∧ n ≤ cap' ∧ c = .slice (some ⟨b, j * z, none⟩) n cap') ∨
    (∃ z, ρ i = some (none, z, 0) ∧ j = 0 ∧ n = 0 ∧ c = .slice none 0 0) := by
  cases h with
  | cl h => cases h
  | sl _ _ _ b z cap cap' h hc hn => exact .inl ⟨b, z, cap, cap', h, hc, hn, rfl⟩
  | sl0 _ z h => exact .inr ⟨z, h, rfl, rfl, rfl⟩
theorem VR.sa_inv {i j o n : Nat} (h : VR w S ρ (.sa i j o n) c) : ∃ b z cap cap', ρ i = some (some b, z, cap) ∧ n ≤ cap' ∧ c = .slice (some ⟨b, j * z + o, none⟩) n cap' := by
  cases h with
  | cl h => cases h
  | sa _ _ _ _ b z cap cap' h hn => exact ⟨b, z, cap, cap', h, hn, rfl⟩
theorem VR.rp_inv {cs : List AV} (h : VR w S ρ (.rp cs) c) : ∃ (b off : Nat) (cf : Nat → Value), c = .pointer (some ⟨b, off, none⟩) ∧ S b ∧
    (∀ o v, cs[o]? = some v → w.cell? ⟨b, off + o, none⟩ = some (cf o) ∧ (cf o).oneCell' = true) ∧ (∀ o v, cs[o]? = some v → CR w S v (cf o)) := by
  cases h with
  | cl h => cases h with
    | rp _ b off cf hS h1 h2 => exact ⟨b, off, cf, rfl, hS, h1, h2⟩
theorem VR.rs_inv {z : Nat} {els : List (List AV)} (h : VR w S ρ (.rs z els) c) : (els = [] ∧ ∃ a cap, c = .slice a 0 cap) ∨
    ∃ (b off cap : Nat) (cf : Nat → Nat → Value), c = .slice (some ⟨b, off, none⟩) els.length cap ∧ S b ∧ els.length ≤ cap ∧
      (∀ (j : Nat) (el : List AV) (o : Nat) (v : AV), els[j]? = some el → el[o]? = some v → w.cell? ⟨b, off + j * z + o, none⟩ = some (cf j o) ∧ (cf j o).oneCell' = true) ∧
      (∀ (j : Nat) (el : List AV) (o : Nat) (v : AV), els[j]? = some el → el[o]? = some v → CR w S v (cf j o)) := by
  cases h with
  | cl h => cases h with
    | rs0 z a cap => exact .inl ⟨rfl, a, cap, rfl⟩
    | rs _ _ b off cap cf hS hcap h1 h2 => exact .inr ⟨b, off, cap, cf, rfl, hS, hcap, h1, h2⟩
theorem VR.agg_inv {cs : List AV} (h : VR w S ρ (.agg cs) c) : ∃ C : Array Value, c = .agg C ∧ C.size = cs.length ∧ (∀ j v, cs[j]? = some v → (C.getD j undef).oneCell' = true) ∧
    ∀ j v, cs[j]? = some v → VR w S ρ v (C.getD j undef) := by
  cases h with
  | cl h => cases h with
    | agg _ C hn h1 h => exact ⟨C, rfl, hn, h1, fun j v hv => .cl (h j v hv)⟩
  | agg _ C hn h1 h => exact ⟨C, rfl, hn, h1, h⟩
theorem VR.tup_inv {cs : List AV} (h : VR w S ρ (.tup cs) c) : ∃ C : Array Value, c = .tuple C ∧ C.size = cs.length ∧ ∀ j v, cs[j]? = some v → VR w S ρ v (C.getD j undef) := by
  cases h with
  | cl h => cases h with
    | tup _ C hn h => exact ⟨C, rfl, hn, fun j v hv => .cl (h j v hv)⟩
  | tup _ C hn h => exact ⟨C, rfl, hn, h⟩
theorem VR.fn_inv {f : Fn} {cs : List AV} (h : VR w S ρ (.fn f cs) c) : ∃ C : Array Value, c = .func f #[] C ∧ C.size = cs.length ∧ ∀ j v, cs[j]? = some v → VR w S ρ v (C.getD j undef) := by
  cases h with
  | cl h => cases h with
    | fn _ _ C hn h => exact ⟨C, rfl, hn, fun j v hv => .cl (h j v hv)⟩
  | fn _ _ C hn h => exact ⟨C, rfl, hn, h⟩
end inv

theorem carg_ok {x : Operand} {r : Arg} (h : carg x = some r) {ts : List Nat} {F : List (Nat × AV)} {a : Act} {w : World} {S : Nat → Prop} {ρ : Rho} (hF : FRs ts F a w S ρ)
    (hs : ∀ t, t ∈ r.slots → t ∈ ts) {v : AV} (hv : aarg F r = some v) : VR w S ρ v (a.eval x) := by
  cases x with
  | tmp t =>
    simp [carg] at h; subst h
    exact hF t (hs t (by simp [Arg.slots])) v hv
  | const u =>
    simp only [carg] at h
    split at h
    · rename_i x hx
      injection h with h; subst h
      simp [aarg] at hv; subst hv
      exact .cl (conv_spec 2 u _ hx)
    · cases h
  | global g => simp [carg] at h
  | func f =>
    simp [carg] at h; subst h
    simp [aarg] at hv; subst hv
    exact .cl (.fn (.func f) [] #[] rfl (by simp))

theorem Ext.refl (w : World) (S O : Nat → Prop) (ρ : Rho) (new : Nat → Prop) (hS : ∀ b, S b → b < w.heap.size) : Ext w S O ρ w S O ρ new :=
  ⟨Keep.refl _ _, fun _ h => h, fun _ h => .inl h, hS, fun _ h => .inl h, fun _ _ => rfl⟩

/-- An operation that only yields a value, in the very world. -/
theorem OpT.pure {P : Program} {o : Oper} {ts : List Nat} {F : List (Nat × AV)} {H : List (Nat × Ob)} {rd : List Nat} {v : AV}
    (h : ∀ (S : Nat → Prop) (ρ : Rho) (a : Act) (w : World), FRs ts F a w S ρ → HRi (fun i => i ∈ rd) w S ρ H → ∃ cv, (execOp a.eval o).run P w = .ok (.value cv) w ∧ VR w S ρ v cv) :
    OpT P o ts F H rd [] v H := by
  intro S ρ a w Q K hF hS hH _ hK
  have hH' : HRi (fun i => i ∈ rd) w S ρ H := ⟨fun i ob hi => hH.ob i ob (.inl hi), fun i j oi oj b z z' c c' hi hj => hH.dis i j oi oj b z z' c c' (.inl hi) (.inl hj)⟩
  obtain ⟨cv, hr, hv⟩ := h S ρ a w hF hH'
  refine .inl ?_
  unfold Oper.wp
  rw [hr]
  exact hK cv w S ρ hv hH (Ext.refl _ _ _ _ _ hS)

theorem run_value {P : Program} {w : World} {s : Sem Value} {v : Value} (h : s.run P w = .ok v w) : (do Pure.pure (Next.value (← s)) : Sem Next).run P w = .ok (.value v) w := by
  simp [h]

section pureOps
variable {P : Program} {o : Oper} {F : List (Nat × AV)} {H : List (Nat × Ob)}

theorem opt_mv {x : Operand} {r : Arg} (hx : carg x = some r) (ho : o.op = .move x ∨ o.op = .assign x) {v : AV} (hv : aarg F r = some v) : OpT P o r.slots F H [] [] v H :=
  OpT.pure fun S ρ a w hF _ => ⟨a.eval x, by rcases ho with ho | ho <;> simp [execOp, ho], carg_ok hx hF (fun _ h => h) hv⟩

theorem opt_pick {c x y : Operand} {rc rx ry : Arg} (hc : carg c = some rc) (hx : carg x = some rx) (hy : carg y = some ry) (ho : o.op = .pick c x y) {t : Bool} {v : AV}
    (ht : aarg F rc = some (.bool t)) (hv : aarg F (if t = true then rx else ry) = some v) : OpT P o (rc.slots ++ rx.slots ++ ry.slots) F H [] [] v H :=
  OpT.pure fun S ρ a w hF _ => by
    have e := (carg_ok hc hF (fun _ h => by simp [h]) ht).bool_inv
    refine ⟨if t = true then a.eval x else a.eval y, by simp [execOp, ho, e, asBool], ?_⟩
    split at hv
    · rename_i h; rw [if_pos h]; exact carg_ok hx hF (fun _ h => by simp [h]) hv
    · rename_i h; rw [if_neg h]; exact carg_ok hy hF (fun _ h => by simp [h]) hv

theorem opt_nilc {x : Operand} {r : Arg} (hx : carg x = some r) (ho : o.op = .nilCheck x) {v : AV} (hv : aarg F r = some v) (hn : (∃ i j k, v = .ptr i j k) ∨ ∃ cs, v = .rp cs) :
    OpT P o r.slots F H [] [] v H :=
  OpT.pure fun S ρ a w hF _ => by
    have e := carg_ok hx hF (fun _ h => h) hv
    refine ⟨a.eval x, ?_, e⟩
    rcases hn with ⟨i, j, k, rfl⟩ | ⟨cs, rfl⟩
    · obtain ⟨b, z, cap, _, e⟩ := e.ptr_inv
      simp [execOp, ho, e]
    · obtain ⟨b, off, cf, e, _⟩ := e.rp_inv
      simp [execOp, ho, e]

theorem run_eqGuard_int {op : BinOp} {t : TypeId} {x y : Operand} {k k' : IntKind} {n m : Int} (w : World) : (eqGuard op t x y (.int k n) (.int k' m)).run P w = .ok () w := by
  unfold eqGuard
  cases op <;> simp

theorem opt_bin {op : BinOp} {t yt : TypeId} {x y : Operand} {rx ry : Arg} (hx : carg x = some rx) (hy : carg y = some ry) (ho : o.op = .binOp op t x y yt)
    {k k' : IntKind} {n m : Int} (h1 : aarg F rx = some (.int k n)) (h2 : aarg F ry = some (.int k' m)) {K : AV → Prop} (h : binV op k k' n m K) :
    ∃ v, K v ∧ OpT P o (rx.slots ++ ry.slots) F H [] [] v H := by
  -- the value does not depend on the world
  have one : ∃ v cv, K v ∧ (∀ w : World, (binOp op t (.int k n) (.int k' m)).run P w = .ok cv w) ∧ ∀ w S, CR w S v cv := by
    cases op <;> simp only [binV] at h
    case shl => exact ⟨_, _, h.2, fun w => by simp [binOp, Op.shift, Int.not_lt.2 h.1], fun _ _ => .int _ _⟩
    case shr => exact ⟨_, _, h.2, fun w => by simp [binOp, Op.shift, Int.not_lt.2 h.1], fun _ _ => .int _ _⟩
    case add => obtain ⟨rfl, h⟩ := h; exact ⟨_, _, h, fun w => by simp [binOp, Op.intArith], fun _ _ => .int _ _⟩
    case sub => obtain ⟨rfl, h⟩ := h; exact ⟨_, _, h, fun w => by simp [binOp, Op.intArith], fun _ _ => .int _ _⟩
    case mul => obtain ⟨rfl, h⟩ := h; exact ⟨_, _, h, fun w => by simp [binOp, Op.intArith], fun _ _ => .int _ _⟩
    case quo => obtain ⟨rfl, h0, h⟩ := h; exact ⟨_, _, h, fun w => by simp [binOp, Op.intDiv, h0], fun _ _ => .int _ _⟩
    case rem => obtain ⟨rfl, h0, h⟩ := h; exact ⟨_, _, h, fun w => by simp [binOp, Op.intDiv, h0], fun _ _ => .int _ _⟩
    case and => obtain ⟨rfl, h⟩ := h; exact ⟨_, _, h, fun w => by simp [binOp, Op.intBits, bits], fun _ _ => .int _ _⟩
    case or => obtain ⟨rfl, h⟩ := h; exact ⟨_, _, h, fun w => by simp [binOp, Op.intBits, bits], fun _ _ => .int _ _⟩
    case xor => obtain ⟨rfl, h⟩ := h; exact ⟨_, _, h, fun w => by simp [binOp, Op.intBits, bits], fun _ _ => .int _ _⟩
    case andNot => obtain ⟨rfl, h⟩ := h; exact ⟨_, _, h, fun w => by simp [binOp, Op.intBits, bits], fun _ _ => .int _ _⟩
    case eql => obtain ⟨rfl, h⟩ := h; exact ⟨_, _, h, fun w => by simp [binOp, Op.intCmp], fun _ _ => .bool _⟩
    case neq => obtain ⟨rfl, h⟩ := h; exact ⟨_, _, h, fun w => by simp [binOp, Op.intCmp], fun _ _ => .bool _⟩
    case lss => obtain ⟨rfl, h⟩ := h; exact ⟨_, _, h, fun w => by simp [binOp, Op.intCmp], fun _ _ => .bool _⟩
    case leq => obtain ⟨rfl, h⟩ := h; exact ⟨_, _, h, fun w => by simp [binOp, Op.intCmp], fun _ _ => .bool _⟩
    case gtr => obtain ⟨rfl, h⟩ := h; exact ⟨_, _, h, fun w => by simp [binOp, Op.intCmp], fun _ _ => .bool _⟩
    case geq => obtain ⟨rfl, h⟩ := h; exact ⟨_, _, h, fun w => by simp [binOp, Op.intCmp], fun _ _ => .bool _⟩
  obtain ⟨v, cv, hK, hr, hcr⟩ := one
  refine ⟨v, hK, OpT.pure fun S ρ a w hF _ => ?_⟩
  have e1 := (carg_ok hx hF (fun _ h => by simp [h]) h1).int_inv
  have e2 := (carg_ok hy hF (fun _ h => by simp [h]) h2).int_inv
  exact ⟨cv, by simp [execOp, ho, e1, e2, run_eqGuard_int, hr w], .cl (hcr w S)⟩

theorem opt_un {op : UnOp} {t : TypeId} {x : Operand} {r : Arg} (hx : carg x = some r) {K : AV → Prop}
    (h : match op, aarg F r with
      | .not, some (.bool b) => K (.bool (!b))
      | .neg, some (.int k n) => K (.int k (k.wrap (0 - n)))
      | _, _ => False) (ho : o.op = .unOp op t x) : ∃ v, K v ∧ OpT P o r.slots F H [] [] v H := by
  cases hv : aarg F r with
  | none => rw [hv] at h; cases op <;> exact h.elim
  | some v =>
    rw [hv] at h
    cases op <;> cases v <;> first | exact h.elim | skip
    · rename_i k n
      refine ⟨_, h, OpT.pure fun S ρ a w hF _ => ?_⟩
      have e := (carg_ok hx hF (fun _ h => h) hv).int_inv
      exact ⟨_, by simp [execOp, ho, e, Op.unary, Op.intArith], .cl (.int _ _)⟩
    · rename_i b
      refine ⟨_, h, OpT.pure fun S ρ a w hF _ => ?_⟩
      have e := (carg_ok hx hF (fun _ h => h) hv).bool_inv
      exact ⟨_, by simp [execOp, ho, e, Op.unary], .cl (.bool _)⟩

end pureOps
end Go.Proofs.Ytadjdnhnbkcakaa
