/-
  Abstract values, the abstract heap of a call's own objects, and how both stand to the model's world. No program in sight.
-/
import Derived.WalkKit
namespace Go.Proofs.Ytadjdnhnbkcakaa
open Go.RowKit

/-- Abstract values. 'rp', 'rs': read-only data as pure values; 'ptr', 'sl', 'sa': into an own object, by its name. -/
inductive AV where
  | any
  | und
  | bool (b : Bool)
  | int (k : IntKind) (n : Int)
  | str (s : ByteArray)
  | nilp
  | ptr (i j o : Nat)
  | rp (cs : List AV)
  | nils
  | sl (i j n : Nat)
  | sa (i j o n : Nat)
  | rs (z : Nat) (els : List (List AV))
  | fn (f : Fn) (caps : List AV)
  | nilf
  | agg (cs : List AV)
  | tup (vs : List AV)
  | nilm
  | mp (i : Nat)
  | anyb

/-- Closed values: no own object is named. S: the blocks that stay as they are. -/
inductive CR (w : World) (S : Nat → Prop) : AV → Value → Prop where
  | any (c : Value) : CR w S .any c
  | und : CR w S .und undef
  | bool (b : Bool) : CR w S (.bool b) (.bool b)
  | int (k : IntKind) (n : Int) : CR w S (.int k n) (.int k n)
  | str (s : ByteArray) : CR w S (.str s) (.string s)
  | nilp : CR w S .nilp (.pointer none)
  | rp (cs : List AV) (b off : Nat) (cf : Nat → Value) (hS : S b)
      (h1 : ∀ o v, cs[o]? = some v → w.cell? ⟨b, off + o, none⟩ = some (cf o) ∧ (cf o).oneCell' = true)
      (h2 : ∀ o v, cs[o]? = some v → CR w S v (cf o)) : CR w S (.rp cs) (.pointer (some ⟨b, off, none⟩))
  | nils : CR w S .nils (.slice none 0 0)
  | rs0 (z : Nat) (a : Option Addr) (cap : Nat) : CR w S (.rs z []) (.slice a 0 cap)
  | rs (z : Nat) (els : List (List AV)) (b off cap : Nat) (cf : Nat → Nat → Value) (hS : S b) (hcap : els.length ≤ cap)
      (h1 : ∀ j el o v, els[j]? = some el → el[o]? = some v → w.cell? ⟨b, off + j * z + o, none⟩ = some (cf j o) ∧ (cf j o).oneCell' = true)
      (h2 : ∀ j el o v, els[j]? = some el → el[o]? = some v → CR w S v (cf j o)) : CR w S (.rs z els) (.slice (some ⟨b, off, none⟩) els.length cap)
  | fn (f : Fn) (caps : List AV) (C : Array Value) (hn : C.size = caps.length) (h : ∀ j v, caps[j]? = some v → CR w S v (C.getD j undef)) :
      CR w S (.fn f caps) (.func f #[] C)
  | nilf : CR w S .nilf .nilFunc
  | agg (cs : List AV) (C : Array Value) (hn : C.size = cs.length) (h1 : ∀ j v, cs[j]? = some v → (C.getD j undef).oneCell' = true)
      (h : ∀ j v, cs[j]? = some v → CR w S v (C.getD j undef)) : CR w S (.agg cs) (.agg C)
  | tup (cs : List AV) (C : Array Value) (hn : C.size = cs.length) (h : ∀ j v, cs[j]? = some v → CR w S v (C.getD j undef)) : CR w S (.tup cs) (.tuple C)
  | nilm : CR w S .nilm (.map none)
  | anyb (b : Bool) : CR w S .anyb (.bool b)

theorem CR.mono {w w' : World} {S S' : Nat → Prop} (hS : ∀ b, S b → S' b) (hw : ∀ a c, S a.block → w.cell? a = some c → w'.cell? a = some c) {v : AV} {c : Value}
    (h : CR w S v c) : CR w' S' v c := by
  induction h with
  | any c => exact .any c
  | und => exact .und
  | bool b => exact .bool b
  | int k n => exact .int k n
  | str s => exact .str s
  | nilp => exact .nilp
  | rp cs b off cf hb h1 _ ih => exact .rp cs b off cf (hS b hb) (fun o v hv => ⟨hw _ _ hb (h1 o v hv).1, (h1 o v hv).2⟩) ih
  | nils => exact .nils
  | rs0 z a cap => exact .rs0 z a cap
  | rs z els b off cap cf hb hcap h1 _ ih =>
    exact .rs z els b off cap cf (hS b hb) hcap (fun j el o v he hv => ⟨hw _ _ hb (h1 j el o v he hv).1, (h1 j el o v he hv).2⟩) ih
  | fn f caps C hn _ ih => exact .fn f caps C hn ih
  | nilf => exact .nilf
  | agg cs C hn h1 _ ih => exact .agg cs C hn h1 ih
  | tup cs C hn _ ih => exact .tup cs C hn ih
  | nilm => exact .nilm
  | anyb b => exact .anyb b

/-- Where an own object lies: its block ('none': an empty row that has none yet), the cells of an element, the capacity. -/
abbrev Rho := Nat → Option (Option Nat × Nat × Nat)

/-- Values, own objects named. -/
inductive VR (w : World) (S : Nat → Prop) (ρ : Rho) : AV → Value → Prop where
  | cl {v : AV} {c : Value} (h : CR w S v c) : VR w S ρ v c
  | ptr (i j o b z cap : Nat) (h : ρ i = some (some b, z, cap)) : VR w S ρ (.ptr i j o) (.pointer (some ⟨b, j * z + o, none⟩))
  | sl (i j n b z cap cap' : Nat) (h : ρ i = some (some b, z, cap)) (hc : j + cap' = cap) (hn : n ≤ cap') : VR w S ρ (.sl i j n) (.slice (some ⟨b, j * z, none⟩) n cap')
  | sl0 (i z : Nat) (h : ρ i = some (none, z, 0)) : VR w S ρ (.sl i 0 0) (.slice none 0 0)
  | sa (i j o n b z cap cap' : Nat) (h : ρ i = some (some b, z, cap)) (hn : n ≤ cap') : VR w S ρ (.sa i j o n) (.slice (some ⟨b, j * z + o, none⟩) n cap')
  | fn (f : Fn) (caps : List AV) (C : Array Value) (hn : C.size = caps.length) (h : ∀ j v, caps[j]? = some v → VR w S ρ v (C.getD j undef)) :
      VR w S ρ (.fn f caps) (.func f #[] C)
  | agg (cs : List AV) (C : Array Value) (hn : C.size = cs.length) (h1 : ∀ j v, cs[j]? = some v → (C.getD j undef).oneCell' = true)
      (h : ∀ j v, cs[j]? = some v → VR w S ρ v (C.getD j undef)) : VR w S ρ (.agg cs) (.agg C)
  | tup (cs : List AV) (C : Array Value) (hn : C.size = cs.length) (h : ∀ j v, cs[j]? = some v → VR w S ρ v (C.getD j undef)) : VR w S ρ (.tup cs) (.tuple C)
  | mp (i b z cap : Nat) (h : ρ i = some (some b, z, cap)) : VR w S ρ (.mp i) (.map (some b))

theorem VR.mono {w w' : World} {S S' : Nat → Prop} {ρ ρ' : Rho} (hS : ∀ b, S b → S' b) (hw : ∀ a c, S a.block → w.cell? a = some c → w'.cell? a = some c)
    (hρ : ∀ i x, ρ i = some x → ρ' i = some x) {v : AV} {c : Value} (h : VR w S ρ v c) : VR w' S' ρ' v c := by
  induction h with
  | cl h => exact .cl (h.mono hS hw)
  | ptr i j o b z cap h => exact .ptr i j o b z cap (hρ _ _ h)
  | sl i j n b z cap cap' h hc hn => exact .sl i j n b z cap cap' (hρ _ _ h) hc hn
  | sl0 i z h => exact .sl0 i z (hρ _ _ h)
  | sa i j o n b z cap cap' h hn => exact .sa i j o n b z cap cap' (hρ _ _ h) hn
  | fn f caps C hn _ ih => exact .fn f caps C hn ih
  | agg cs C hn h1 _ ih => exact .agg cs C hn h1 ih
  | tup cs C hn _ ih => exact .tup cs C hn ih
  | mp i b z cap h => exact .mp i b z cap (hρ _ _ h)

/-- Own objects. -/
inductive Ob where
  | dead
  | cells (e z : Nat) (els : List (List AV)) (flat : Bool)
  | mset (ks : List Int)

def Ob.live : Ob → Bool
  | .dead => false
  | _ => true

/-- An own object and the world. -/
def OR (w : World) (S : Nat → Prop) (ρ : Rho) (ob : Ob) (bk : Option Nat) (z cap : Nat) : Prop :=
  match ob with
  | .dead => True
  | .mset ks => ∃ b es clock, bk = some b ∧ ¬ S b ∧ w.heap[b]? = some (.map es clock) ∧ es.toList.map (fun x => x.key) = ks.map (Value.int .i64)
  | .cells e z' els flat => z' = z ∧ match bk with
    | none => els = [] ∧ cap = 0
    | some b => ¬ S b ∧ cap ≤ maxLen ∧ ∃ C : Array Value, w.heap[b]? = some (.cells C e (0, 0)) ∧ C.size = cap * z ∧ els.length ≤ cap ∧ (∀ (j : Nat) (el : List AV), els[j]? = some el → el.length ≤ z) ∧
      ∀ (j : Nat) (el : List AV) (o : Nat) (v : AV), els[j]? = some el → el[o]? = some v → (C.getD (j * z + o) undef).oneCell' = true ∧ if flat = true then CR w S v (C.getD (j * z + o) undef) else VR w S ρ v (C.getD (j * z + o) undef)

theorem OR.mono {w w' : World} {S S' : Nat → Prop} {ρ ρ' : Rho} {ob : Ob} {bk : Option Nat} {z cap : Nat} (hS : ∀ b, S b → S' b)
    (hw : ∀ a c, S a.block → w.cell? a = some c → w'.cell? a = some c) (hρ : ∀ i x, ρ i = some x → ρ' i = some x)
    (hb : ∀ b, bk = some b → ob.live = true → w'.heap[b]? = w.heap[b]? ∧ ¬ S' b) (h : OR w S ρ ob bk z cap) : OR w' S' ρ' ob bk z cap := by
  cases ob with
  | dead => trivial
  | mset ks =>
    obtain ⟨b, es, clock, e, h0, h1, h2⟩ := h
    obtain ⟨e1, e2⟩ := hb b e rfl
    exact ⟨b, es, clock, e, e2, e1.trans h1, h2⟩
  | cells e z' els flat =>
    obtain ⟨hz, h⟩ := h
    refine ⟨hz, ?_⟩
    cases bk with
    | none => exact h
    | some b =>
      obtain ⟨h0, hm, C, hC, h1, h2, h3, h4⟩ := h
      obtain ⟨e1, e2⟩ := hb b rfl rfl
      refine ⟨e2, hm, C, e1.trans hC, h1, h2, h3, fun j el o v he hv => ?_⟩
      obtain ⟨q1, q2⟩ := h4 j el o v he hv
      refine ⟨q1, ?_⟩
      split at q2
      · rename_i hf; rw [if_pos hf]; exact q2.mono hS hw
      · rename_i hf; rw [if_neg hf]; exact q2.mono hS hw hρ

/-- Finite maps with literal keys. -/
def get {α : Type} : List (Nat × α) → Nat → Option α
  | [], _ => none
  | (s, v) :: F, t => if s = t then some v else get F t

/-- The blocks of the live objects among some names. -/
def LiveF (ρ : Rho) (h : Nat → Option Ob) (I : Nat → Prop) (b : Nat) : Prop :=
  ∃ i ob z cap, I i ∧ h i = some ob ∧ ob.live = true ∧ ρ i = some (some b, z, cap)
abbrev LiveB (ρ : Rho) (H : List (Nat × Ob)) (I : Nat → Prop) (b : Nat) : Prop := LiveF ρ (get H) I b

/-- The heap relation at the names I. -/
structure HRf (I : Nat → Prop) (w : World) (S : Nat → Prop) (ρ : Rho) (h : Nat → Option Ob) : Prop where
  ob : ∀ i o, I i → h i = some o → ∃ bk z cap, ρ i = some (bk, z, cap) ∧ OR w S ρ o bk z cap
  dis : ∀ i j oi oj b z z' c c', I i → I j → i ≠ j → h i = some oi → h j = some oj → oi.live = true → oj.live = true →
    ρ i = some (some b, z, c) → ρ j = some (some b, z', c') → False
abbrev HRi (I : Nat → Prop) (w : World) (S : Nat → Prop) (ρ : Rho) (H : List (Nat × Ob)) : Prop := HRf I w S ρ (get H)

/-- The whole heap relation. -/
structure HRF (w : World) (S : Nat → Prop) (ρ : Rho) (h : Nat → Option Ob) : Prop where
  hS : ∀ b, S b → b < w.heap.size
  dom : ∀ i, h i = none → ρ i = none
  at_ : HRf (fun _ => True) w S ρ h
abbrev HR (w : World) (S : Nat → Prop) (ρ : Rho) (H : List (Nat × Ob)) : Prop := HRF w S ρ (get H)

/-- What a step may turn: only the blocks in O, and new ones. -/
structure Keep (w w' : World) (O : Nat → Prop) : Prop where
  os : w'.os = w.os
  tape : w'.tape = w.tape
  output : w'.output = w.output
  size : w.heap.size ≤ w'.heap.size
  block : ∀ k, k < w.heap.size → ¬ O k → w'.heap[k]? = w.heap[k]?

theorem Keep.refl (w : World) (O : Nat → Prop) : Keep w w O := ⟨rfl, rfl, rfl, Nat.le_refl _, fun _ _ _ => rfl⟩
theorem Keep.trans {w w1 w2 : World} {O O1 : Nat → Prop} (h : Keep w w1 O) (h' : Keep w1 w2 O1) (hO : ∀ b, O1 b → O b ∨ w.heap.size ≤ b) : Keep w w2 O :=
  ⟨h'.os.trans h.os, h'.tape.trans h.tape, h'.output.trans h.output, Nat.le_trans h.size h'.size, fun k hk hn =>
    (h'.block k (Nat.lt_of_lt_of_le hk h.size) (fun h1 => (hO k h1).elim hn (by omega))).trans (h.block k hk hn)⟩
theorem Keep.mono {w w' : World} {O O' : Nat → Prop} (h : Keep w w' O) (hO : ∀ b, O b → O' b) : Keep w w' O' :=
  ⟨h.os, h.tape, h.output, h.size, fun k hk hn => h.block k hk (fun h1 => hn (hO k h1))⟩
theorem Keep.drawn {w w' : World} {O : Nat → Prop} (h : Keep w w' O) (n : Nat) : Keep w { w' with drawn := n } O := ⟨h.os, h.tape, h.output, h.size, h.block⟩
theorem Keep.cell {w w' : World} {O : Nat → Prop} (h : Keep w w' O) {a : Addr} {c : Value} (hn : ¬ O a.block) (hc : w.cell? a = some c) : w'.cell? a = some c := by
  rw [World.cell?_of_block (w := w) (h.block a.block (World.block_lt_of_cell? w a hc) hn)]; exact hc

/-- What a step leaves, seen from the configuration before it. O: the blocks that it may turn. -/
structure Ext (w : World) (S O : Nat → Prop) (ρ : Rho) (w' : World) (S' O' : Nat → Prop) (ρ' : Rho) (new : Nat → Prop) : Prop where
  keep : Keep w w' O
  sub : ∀ b, S b → S' b
  fresh : ∀ b, S' b → S b ∨ w.heap.size ≤ b
  size : ∀ b, S' b → b < w'.heap.size
  own : ∀ b, O' b → O b ∨ w.heap.size ≤ b
  rho : ∀ i, ¬ new i → ρ' i = ρ i

theorem Ext.cells {w w' : World} {S O S' O' : Nat → Prop} {ρ ρ' : Rho} {new : Nat → Prop} (h : Ext w S O ρ w' S' O' ρ' new) (hd : ∀ b, S b → ¬ O b) :
    ∀ a c, S a.block → w.cell? a = some c → w'.cell? a = some c := fun _ _ hs hc => h.keep.cell (hd _ hs) hc

end Go.Proofs.Ytadjdnhnbkcakaa
