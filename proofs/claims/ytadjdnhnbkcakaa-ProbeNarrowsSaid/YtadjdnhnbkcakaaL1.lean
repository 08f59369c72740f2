/-
  The operations, with what they need of the program's tables written out; what each does to abstract values; and that this is what the model does.
-/
import Derived.Test.YtadjdnhnbkcakaaL0
namespace Go.Proofs.Ytadjdnhnbkcakaa
open Go.RowKit

inductive Arg where
  | t (n : Nat)
  | c (v : AV)

inductive MOp where
  | mv (x : Arg)
  | pick (c a b : Arg)
  | alloc (e z : Nat) (zero : List AV)
  | box (e z : Nat) (x : Arg)
  | build (zero : List AV) (parts : List (Nat × Nat × Arg))
  | bslice (e z : Nat) (zero : List AV) (len : Nat) (parts : List (Nat × Arg))
  | ld (agg : Bool) (n : Nat) (x : Arg)
  | st (n : Nat) (x v : Arg)
  | nilc (x : Arg)
  | bin (op : BinOp) (x y : Arg)
  | un (op : UnOp) (x : Arg)
  | cvt (k : IntKind) (x : Arg)
  | mkfn (fn : Fn) (caps : List Arg)
  | mksl (e z bytes : Nat) (zero : List AV) (l c : Arg)
  | slc (z : Nat) (x : Arg) (lo hi : Option Arg)
  | slarr (n : Nat) (x : Arg) (lo hi : Option Arg)
  | fa (off : Nat) (x : Arg)
  | fld (agg : Bool) (off n : Nat) (x : Arg)
  | ixsl (z : Nat) (x i : Arg)
  | ixarr (len z : Nat) (x i : Arg)
  | ixval (len z : Nat) (agg : Bool) (x i : Arg)
  | ext (x : Arg) (i : Nat)
  | len (x : Arg)
  | lenc (n : Nat)
  | app (e z bytes : Nat) (zero : List AV) (s x : Arg)
  | cpy (d s : Arg)
  | mn (x y : Arg)
  | mx (x y : Arg)
  | call (f : Nat) (args : List Arg)
  | callv (f : Arg) (args : List Arg)
  | isnil (sl neg : Bool) (x : Arg)
  | beq (neg : Bool) (x y : Arg)
  | mkmap
  | mapadd (m k v : Arg)
  | lenm (x : Arg)

/-- Lists of values at their places. -/
def setAt : List AV → Nat → List AV → List AV
  | l, _, [] => l
  | l, o, c :: cs => setAt (l.set o c) (o + 1) cs

def chunks (z : Nat) : Nat → List AV → List (List AV)
  | 0, _ => []
  | n + 1, l => l.take z :: chunks z n (l.drop z)

def reps : Nat → List AV → List AV
  | 0, _ => []
  | n + 1, l => l ++ reps n l

/-- The cells of a value. -/
def acells : AV → Option (List AV)
  | .any => none
  | .und => none
  | .tup _ => none
  | .agg cs => some cs
  | v => some [v]

mutual
def closedV : AV → Bool
  | .ptr .. => false
  | .sl .. => false
  | .sa .. => false
  | .mp _ => false
  | .fn _ caps => closedL caps
  | .agg cs => closedL cs
  | .tup cs => closedL cs
  | _ => true
def closedL : List AV → Bool
  | [] => true
  | v :: l => closedV v && closedL l
end

def aarg (F : List (Nat × AV)) : Arg → Option AV
  | .t n => get F n
  | .c v => some v

def aargs (F : List (Nat × AV)) : List Arg → Option (List AV)
  | [] => some []
  | x :: l => match aarg F x, aargs F l with
    | some v, some vs => some (v :: vs)
    | _, _ => none

/-- Constants as abstract values. -/
def convL (f : Value → Option AV) : List Value → Option (List AV)
  | [] => some []
  | v :: l => if v.oneCell' = true then match f v, convL f l with
    | some x, some xs => some (x :: xs)
    | _, _ => none
    else none

def conv : Nat → Value → Option AV
  | _, .bool b => some (.bool b)
  | _, .int k n => some (.int k n)
  | _, .string s => some (.str s)
  | _, .pointer none => some .nilp
  | _, .slice none 0 0 => some .nils
  | _, .nilFunc => some .nilf
  | _, .map none => some .nilm
  | n + 1, .agg C => match convL (conv n) C.toList with
    | some cs => some (.agg cs)
    | none => none
  | _, _ => none

theorem convL_spec {w : World} {S : Nat → Prop} {f : Value → Option AV} (hf : ∀ v x, f v = some x → CR w S x v) : ∀ (l : List Value) (xs : List AV), convL f l = some xs →
    xs.length = l.length ∧ ∀ (j : Nat) (x : AV), xs[j]? = some x → ∃ v, l[j]? = some v ∧ v.oneCell' = true ∧ CR w S x v
  | [], xs, h => by simp [convL] at h; subst h; simp
  | v :: l, xs, h => by
    simp only [convL] at h
    split at h
    · rename_i h1
      split at h
      · rename_i x xs' hx hxs
        obtain ⟨e1, e2⟩ := convL_spec hf l xs' hxs
        injection h with h
        subst h
        refine ⟨by simp [e1], fun j y hy => ?_⟩
        cases j with
        | zero => simp at hy; subst hy; exact ⟨v, by simp, h1, hf _ _ hx⟩
        | succ j => simpa using e2 j y (by simpa using hy)
      · cases h
    · cases h

theorem conv_spec {w : World} {S : Nat → Prop} : ∀ (n : Nat) (v : Value) (x : AV), conv n v = some x → CR w S x v := by
  intro n
  induction n with
  | zero =>
    intro v x h
    unfold conv at h
    split at h <;> first | (injection h with h; subst h; constructor) | (cases h) | (rename_i h0; cases h0)
  | succ n ih =>
    intro v x h
    unfold conv at h
    split at h <;> first | (injection h with h; subst h; constructor; done) | (cases h; done) | skip
    · rename_i C h0
      cases h0
      split at h
      · rename_i cs hcs
        injection h with h
        subst h
        obtain ⟨e1, e2⟩ := convL_spec (w := w) (S := S) (f := conv n) ih _ _ hcs
        refine .agg cs C (by simpa using e1.symm) (fun j v hv => ?_) (fun j v hv => ?_)
        · obtain ⟨u, hu, h1, _⟩ := e2 j v hv
          have hj : C[j]? = some u := by simpa using hu
          simp [hj, h1]
        · obtain ⟨u, hu, _, h2⟩ := e2 j v hv
          have hj : C[j]? = some u := by simpa using hu
          simp [hj, h2]
      · cases h

end Go.Proofs.Ytadjdnhnbkcakaa
