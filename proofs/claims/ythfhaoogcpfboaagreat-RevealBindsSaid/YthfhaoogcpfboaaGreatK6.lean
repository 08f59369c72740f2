/-
  Proved: colletlaw38.RevealBinds returns true for every input, and its arguments read as before. No condition.
-/
import Derived.Test.YthfhaoogcpfboaaGreatK5
import Derived.Test.YthfhaoogcpfboaaGreatRows
set_option linter.unusedVariables false
set_option linter.unusedSimpArgs false

/-! Walks: VZ. -/
namespace Go.Proofs.YthfhaoogcpfboaaGreat
open Go.RowKit
set_option maxRecDepth 100000
set_option linter.unusedVariables false
theorem rc_frzT {α : Type} {f : α → List AV} {xs : List α} {H H0 : Hp} {al : Bool} {i e z n : Nat} (h : get H i = some (.cells e z (xs.map f) true)) (h0 : get H0 i = none) (hn : n ≤ xs.length) (hf : ∀ x, noROL (f x) = true) : RC H H0 al (.sl i 0 n) (.rs z ((xs.take n).map f)) := by
  have := rc_freeze (H0 := H0) (al := al) (j := 0) (n := n) h h0 (by simpa using hn) (.inr fun el he v hv => noROE_mem (XN hf xs) el he v hv)
  rw [List.drop_zero, ← List.map_take] at this
  exact this
theorem src_sub {H : Hp} {i e z j n : Nat} {els els' : List (List AV)} {fl : Bool} (hg : get H i = some (.cells e z els fl)) (h : j + n ≤ els.length) (he : (els.drop j).take n = els') : srcOf H z (.sl i j n) = some ([i], els') := by
  subst he
  simp only [srcOf, hg]
  rw [if_pos ⟨trivial, h⟩]
def pick3 (a b c : Int) (q : Int) : Int := ([a, b, c] : List Int).getD (modS q 3).toNat 0
theorem pick3_at (a b c q : Int) : ([a, b, c] : List Int)[(modS q 3).toNat]? = some (pick3 a b c q) := by
  have := Jj q 3 (by decide)
  exact w_at (by simp; omega)
def lfK (lv : List Lf) (k : Nat) : Lf := lv.getD k dfL
/-- A Shown that is changed in one place. -/
def oddG (kd k h : Nat) (z : Int) (lv : List Lf) (hd : List (List Int)) (q2 : Int) : Shn :=
  match kd with
  | 0 => ⟨z, lv.set k ⟨(lfK lv k).ix, (lfK lv k).want, !(lfK lv k).sure, (lfK lv k).touched, (lfK lv k).salt⟩, hd⟩
  | 1 => ⟨z, lv.set k ⟨(lfK lv k).ix, (lfK lv k).want, (lfK lv k).sure, !(lfK lv k).touched, (lfK lv k).salt⟩, hd⟩
  | 2 => ⟨z, lv.set k ⟨(lfK lv k).ix, q2, (lfK lv k).sure, (lfK lv k).touched, (lfK lv k).salt⟩, hd⟩
  | 3 => ⟨z, lv.set k ⟨(lfK lv k).ix, (lfK lv k).want, (lfK lv k).sure, (lfK lv k).touched, (lfK lv k).salt ++ [120]⟩, hd⟩
  | 4 => ⟨z, lv.set k ⟨pick3 q2 (W ((lfK lv k).ix + 1)) (W ((lfK lv k).ix - 1)) q2, (lfK lv k).want, (lfK lv k).sure, (lfK lv k).touched, (lfK lv k).salt⟩, hd⟩
  | 5 => ⟨z, lv.take k ++ lv.drop (k + 1), hd⟩
  | 6 => ⟨pick3 q2 (W (z + 1)) (W (z - 1)) q2, lv, hd⟩
  | 7 => ⟨z, lv, hd.set h ((hd.getD h []).take ((hd.getD h []).length - 1) ++ [b8 q2])⟩
  | 8 => ⟨z, lv, hd.set h (hd.getD h [] ++ [120])⟩
  | 9 => ⟨z, lv, hd ++ [[49, 50, 51, 52, 53, 54, 55, 56]]⟩
  | _ => ⟨z, lv, hd.take (hd.length / 2)⟩
def XT (kd N M : Nat) : Prop := (kd < 6 ∧ N = 0) ∨ (6 < kd ∧ kd < 9 ∧ M = 0)
instance (kd N M : Nat) : Decidable (XT kd N M) := by unfold XT; exact inferInstance
def oddF (kd k h : Nat) (z : Int) (lv : List Lf) (hd : List (List Int)) (q2 : Int) : Shn := if XT kd lv.length hd.length then ⟨modS q2 18, lv, hd⟩ else oddG kd k h z lv hd q2
def oddS (z : Int) (lv : List Lf) (hd : List (List Int)) (q0 q1 q2 : Int) : Shn := oddF (modS q0 11).toNat (modS q1 (max 1 (lv.length : Int))).toNat (modS q1 (max 1 (hd.length : Int))).toNat z lv hd q2
theorem lfK_at {lv : List Lf} {k : Nat} (h : k < lv.length) : lv[k]? = some (lfK lv k) := by
  unfold lfK; rw [List.getD_eq_getElem?_getD, List.getElem?_eq_getElem h]; rfl
theorem hdK_at {hd : List (List Int)} {k : Nat} (h : k < hd.length) : hd[k]? = some (hd.getD k []) := by
  rw [List.getD_eq_getElem?_getD, List.getElem?_eq_getElem h]; rfl
/-- Sizes that stay small. -/
structure ShB (n : Nat) (lv : List Lf) (hd : List (List Int)) : Prop where
  nl : lv.length ≤ n
  nh : hd.length ≤ n
  ok : ∀ x ∈ lv, I64 x.ix ∧ I64 x.want ∧ B8 x.salt ∧ x.salt.length ≤ n
  b : ∀ d ∈ hd, B8 d ∧ d.length ≤ n
theorem ShB.sh {n : Nat} {lv : List Lf} {hd : List (List Int)} (h : ShB n lv hd) (hn : n ≤ 64) : ShOK lv hd where
  nl := Nat.le_trans h.nl hn
  nh := Nat.le_trans h.nh hn
  ok x hx := by have := h.ok x hx; exact ⟨this.1, this.2.1, this.2.2.1, by omega⟩
  b d hd := by have := h.b d hd; exact ⟨this.1, by show d.length ≤ 140737488355328; omega⟩
theorem W_i64 (n : Int) : I64 (W n) := by
  show -9223372036854775808 ≤ IntKind.i64.wrap n ∧ IntKind.i64.wrap n < 9223372036854775808
  rw [IntKind.wrap_i64]; omega
theorem pick3_mem {P : Int → Prop} {a b c q : Int} (ha : P a) (hb : P b) (hc : P c) : P (pick3 a b c q) := by
  have hm := Xk (pick3_at a b c q)
  simp only [List.mem_cons, List.not_mem_nil, or_false] at hm
  rcases hm with h | h | h <;> rw [h] <;> assumption
theorem mem_set {α : Type} {l : List α} {k : Nat} {v x : α} {P : α → Prop} (hl : ∀ x ∈ l, P x) (hv : P v) (h : x ∈ l.set k v) : P x := by
  rcases List.mem_or_eq_of_mem_set h with h | h
  · exact hl x h
  · rw [h]; exact hv
theorem oddG_ok {n kd k h : Nat} {z : Int} {lv : List Lf} {hd : List (List Int)} {q2 : Int} (hs : ShB n lv hd) (h8 : 8 ≤ n) (hq : I64 q2) (hk : kd < 6 → k < lv.length) (hh : 6 < kd → kd < 9 → h < hd.length) : ShB (n + 1) (oddG kd k h z lv hd q2).leaves (oddG kd k h z lv hd q2).hid := by
  have hl0 : ∀ x ∈ lv, I64 x.ix ∧ I64 x.want ∧ B8 x.salt ∧ x.salt.length ≤ n + 1 := fun x hx => by have := hs.ok x hx; exact ⟨this.1, this.2.1, this.2.2.1, by omega⟩
  have hd0 : ∀ d ∈ hd, B8 d ∧ d.length ≤ n + 1 := fun d hd => by have := hs.b d hd; exact ⟨this.1, by omega⟩
  have h1 := hs.nl
  have h2 := hs.nh
  have set_ : ∀ (v : Lf), (I64 v.ix ∧ I64 v.want ∧ B8 v.salt ∧ v.salt.length ≤ n + 1) → ShB (n + 1) (lv.set k v) hd := fun v hv =>
    ⟨by rw [List.length_set]; omega, by omega, fun x hx => mem_set (P := fun x : Lf => I64 x.ix ∧ I64 x.want ∧ B8 x.salt ∧ x.salt.length ≤ n + 1) hl0 hv hx, hd0⟩
  have seth : ∀ (d : List Int), (B8 d ∧ d.length ≤ n + 1) → ShB (n + 1) lv (hd.set h d) := fun d hv =>
    ⟨by omega, by rw [List.length_set]; omega, hl0, fun x hx => mem_set (P := fun d : List Int => B8 d ∧ d.length ≤ n + 1) hd0 hv hx⟩
  have x120 : B8 [120] := b8_c
  match kd with
  | 0 => have hx := hl0 _ (Xk (lfK_at (hk (by decide)))); exact set_ _ hx
  | 1 => have hx := hl0 _ (Xk (lfK_at (hk (by decide)))); exact set_ _ hx
  | 2 => have hx := hl0 _ (Xk (lfK_at (hk (by decide)))); exact set_ _ ⟨hx.1, hq, hx.2.2⟩
  | 3 =>
    have hx := hs.ok _ (Xk (lfK_at (hk (by decide))))
    exact set_ _ ⟨hx.1, hx.2.1, b8_app hx.2.2.1 x120, by rw [List.length_append]; have := hx.2.2.2; simp only [List.length_cons, List.length_nil]; omega⟩
  | 4 => have hx := hl0 _ (Xk (lfK_at (hk (by decide)))); exact set_ _ ⟨pick3_mem hq (W_i64 _) (W_i64 _), hx.2⟩
  | 5 =>
    refine ⟨?_, by show hd.length ≤ _; omega, fun x hx => hl0 x ?_, hd0⟩
    · show (lv.take k ++ lv.drop (k + 1)).length ≤ _
      rw [List.length_append, List.length_take, List.length_drop]; omega
    · rcases List.mem_append.1 hx with hx | hx
      · exact List.mem_of_mem_take hx
      · exact List.mem_of_mem_drop hx
  | 6 => exact ⟨by show lv.length ≤ _; omega, by show hd.length ≤ _; omega, hl0, hd0⟩
  | 7 =>
    have hx := hs.b _ (Xk (hdK_at (hh (by decide) (by decide))))
    refine seth _ ⟨b8_app (fun y hy => hx.1 y (List.mem_of_mem_take hy)) (fun y hy => by rw [List.mem_singleton.1 hy]; exact b8_bd _), ?_⟩
    rw [List.length_append, List.length_take]; have := hx.2; simp only [List.length_cons, List.length_nil]; omega
  | 8 =>
    have hx := hs.b _ (Xk (hdK_at (hh (by decide) (by decide))))
    refine seth _ ⟨b8_app hx.1 x120, ?_⟩
    rw [List.length_append]; have := hx.2; simp only [List.length_cons, List.length_nil]; omega
  | 9 =>
    refine ⟨by show lv.length ≤ _; omega, by show (hd ++ [_]).length ≤ _; rw [List.length_append]; simp only [List.length_cons, List.length_nil]; omega, hl0, fun d hdm => ?_⟩
    rcases List.mem_append.1 hdm with hdm | hdm
    · exact hd0 d hdm
    · rw [List.mem_singleton.1 hdm]
      exact ⟨fun x hx => by simp only [List.mem_cons, List.not_mem_nil, or_false] at hx; omega, by simp only [List.length_cons, List.length_nil]; omega⟩
  | kd + 10 => exact ⟨by show lv.length ≤ _; omega, by show (hd.take _).length ≤ _; rw [List.length_take]; omega, hl0, fun d hdm => hd0 d (List.mem_of_mem_take hdm)⟩
theorem odd_k {x n : Int} (h : 0 ≤ n) : (modS x (max 1 n)).toNat < (max 1 n).toNat := by have := Jj x (max 1 n) (by omega); omega
/-- Odd keeps sizes small. -/
theorem odd_ok {n : Nat} {z : Int} {lv : List Lf} {hd : List (List Int)} {q0 q1 q2 : Int} (hs : ShB n lv hd) (h8 : 8 ≤ n) (hq : I64 q2) : ShB (n + 1) (oddS z lv hd q0 q1 q2).leaves (oddS z lv hd q0 q1 q2).hid := by
  unfold oddS oddF
  split
  · exact ⟨Nat.le_succ_of_le hs.nl, Nat.le_succ_of_le hs.nh, fun x hx => by have := hs.ok x hx; exact ⟨this.1, this.2.1, this.2.2.1, by omega⟩, fun d hd => by have := hs.b d hd; exact ⟨this.1, by omega⟩⟩
  · rename_i hz
    have h1 := odd_k (x := q1) (n := (lv.length : Int)) (by omega)
    have h2 := odd_k (x := q1) (n := (hd.length : Int)) (by omega)
    exact oddG_ok hs h8 hq (fun hk => by have : lv.length ≠ 0 := fun e => hz (.inl ⟨hk, e⟩); omega) (fun hk1 hk2 => by have : hd.length ≠ 0 := fun e => hz (.inr ⟨hk1, hk2, e⟩); omega)
def mcv25 : MC := (.seq (.reg [oN 2 (.box 55 3 (.t 0)) [], oN 3 (.box 25 3 (.t 1)) [], oN 4 (.alloc 55 3 [(.int .i64 0), .nils, .nils]) []] false) (.seq (.reg [oN 9 (.ld true 3 (.t 2)) [], oN 10 (.call 31 [(.t 9)]) [0], oN 5 (.alloc 55 3 [(.int .i64 0), .nils, .nils]) [], ⟨none, (.st 3 (.t 5) (.t 10)), none, [2, 1, 1, 0, 1, 2]⟩] false) (.seq (.reg [oN 11 (.ixarr 3 1 (.t 3) (.c (.int .i64 1))) [], oD 12 1 11 [0], oA 13 1 5 [], oD 14 1 13 [2], oN 15 (.len (.t 14)) [3], oN 16 (.mx (.c (.int .i64 1)) (.t 15)) [4], oN 17 (.call 57 [(.t 12), (.t 16)]) [1, 5], oM 6 17 [6, 6, 0, 1, 2, 3, 4, 5, 6]] false) (.seq (.reg [oN 18 (.ixarr 3 1 (.t 3) (.c (.int .i64 1))) [], oD 19 1 18 [0], oA 20 2 5 [], oD 21 1 20 [2], oN 22 (.len (.t 21)) [3], oN 23 (.mx (.c (.int .i64 1)) (.t 22)) [4], oN 24 (.call 57 [(.t 19), (.t 23)]) [1, 5], oM 7 24 [6, 6, 0, 1, 2, 3, 4, 5, 6]] false) (.seq (.reg [oN 25 (.ixarr 3 1 (.t 3) (.c (.int .i64 0))) [], oD 26 1 25 [0], oN 27 (.call 57 [(.t 26), (.c (.int .i64 11))]) [1], oM 8 27 [2, 2, 0, 1, 2]] false) (.seq (.seq (.reg [oM 28 8 [], oN 29 (.bin .lss (.t 28) (.c (.int .i64 6))) [0], oM 30 29 [1], pA 31 1 5 30 true [2], pD 32 1 31 30 true [3, 2], oG 33 (.len (.t 32)) 30 true [4, 2], oG 34 (.bin .eql (.t 33) (.c (.int .i64 0))) 30 true [5, 2], oN 35 (.pick (.t 30) (.t 34) (.c (.bool false))) [2, 6], oM 36 35 [7, 2], pM 37 8 36 false [8], oG 38 (.bin .gtr (.t 37) (.c (.int .i64 6))) 36 false [9, 8], pM 39 38 36 false [10, 8, 8], pM 40 8 39 true [11], oG 41 (.bin .lss (.t 40) (.c (.int .i64 9))) 39 true [12, 11], oG 42 (.pick (.t 39) (.t 41) (.c (.bool false))) 36 false [11, 13, 8], pM 43 42 36 false [14, 11, 8], pA 44 2 5 43 true [15], pD 45 1 44 43 true [16, 15], oG 46 (.len (.t 45)) 43 true [17, 15], oG 47 (.bin .eql (.t 46) (.c (.int .i64 0))) 43 true [18, 15], oG 48 (.pick (.t 43) (.t 47) (.c (.bool false))) 36 false [15, 19, 8], oN 49 (.pick (.t 36) (.c (.bool true)) (.t 48)) [8, 20]] false) (.cond (.t 49) (.seq (.reg [oN 50 (.ixarr 3 1 (.t 3) (.c (.int .i64 2))) [], oD 51 1 50 [0], oN 52 (.call 57 [(.t 51), (.c (.int .i64 18))]) [1], oA 53 0 5 [0, 1, 2], ⟨none, (.st 1 (.t 53) (.t 52)), none, [3, 2, 2, 0, 1, 2]⟩] false) (.seq (.reg [oN 54 (.ld true 3 (.t 5)) [], ⟨none, (.st 3 (.t 4) (.t 54)), none, [0, 0]⟩] false) .ret)) .skip)) (.seq (.seq (.reg [oM 55 8 []] false) (.block 0 (.seq (.reg [oN 57 (.bin .eql (.t 55) (.c (.int .i64 0))) [], oM 56 57 [0]] false) (.cond (.t 56) (.reg [oA 58 1 5 [], oD 59 1 58 [0], oM 60 6 [], oA 61 1 5 [], oD 62 1 61 [3], oM 63 6 [], oN 64 (.ixsl 5 (.t 62) (.t 63)) [4, 5], oA 65 2 64 [6], oD 66 1 65 [7], oN 67 (.un .not (.t 66)) [8], oN 68 (.ixsl 5 (.t 59) (.t 60)) [1, 2, 0, 1, 2, 3, 4, 5, 6, 7, 8, 9], oA 69 2 68 [10, 0, 1, 2, 3, 4, 5, 6, 7, 8, 9], ⟨none, (.st 1 (.t 69) (.t 67)), none, [11, 9, 0, 1, 2, 3, 4, 5, 6, 7, 8, 9]⟩] true) (.seq (.reg [oN 71 (.bin .eql (.t 55) (.c (.int .i64 1))) [], oM 70 71 [0]] false) (.cond (.t 70) (.reg [oA 72 1 5 [], oD 73 1 72 [0], oM 74 6 [], oA 75 1 5 [], oD 76 1 75 [3], oM 77 6 [], oN 78 (.ixsl 5 (.t 76) (.t 77)) [4, 5], oA 79 3 78 [6], oD 80 1 79 [7], oN 81 (.un .not (.t 80)) [8], oN 82 (.ixsl 5 (.t 73) (.t 74)) [1, 2, 0, 1, 2, 3, 4, 5, 6, 7, 8, 9], oA 83 3 82 [10, 0, 1, 2, 3, 4, 5, 6, 7, 8, 9], ⟨none, (.st 1 (.t 83) (.t 81)), none, [11, 9, 0, 1, 2, 3, 4, 5, 6, 7, 8, 9]⟩] true) (.seq (.reg [oN 85 (.bin .eql (.t 55) (.c (.int .i64 2))) [], oM 84 85 [0]] false) (.cond (.t 84) (.reg [oA 86 1 5 [], oD 87 1 86 [0], oM 88 6 [], oN 89 (.ixarr 3 1 (.t 3) (.c (.int .i64 2))) [], oD 90 1 89 [3], oN 91 (.ixsl 5 (.t 87) (.t 88)) [1, 2, 0, 1, 2, 3, 4], oA 92 1 91 [5, 0, 1, 2, 3, 4], ⟨none, (.st 1 (.t 92) (.t 90)), none, [6, 4, 0, 1, 2, 3, 4]⟩] false) (.seq (.reg [oN 94 (.bin .eql (.t 55) (.c (.int .i64 3))) [], oM 93 94 [0]] false) (.cond (.t 93) (.reg [oA 95 1 5 [], oD 96 1 95 [0], oM 97 6 [], oA 98 1 5 [], oD 99 1 98 [3], oM 100 6 [], oN 101 (.ixsl 5 (.t 99) (.t 100)) [4, 5], oA 102 4 101 [6], oD 103 1 102 [7], oN 104 (.scat (.t 103) (.c (.str (Qt [120])))) [8], oN 105 (.ixsl 5 (.t 96) (.t 97)) [1, 2, 0, 1, 2, 3, 4, 5, 6, 7, 8, 9], oA 106 4 105 [10, 0, 1, 2, 3, 4, 5, 6, 7, 8, 9], ⟨none, (.st 1 (.t 106) (.t 104)), none, [11, 9, 0, 1, 2, 3, 4, 5, 6, 7, 8, 9]⟩] true) (.seq (.reg [oN 108 (.bin .eql (.t 55) (.c (.int .i64 4))) [], oM 107 108 [0]] false) (.cond (.t 107) (.reg [oA 109 1 5 [], oD 110 1 109 [0], oM 111 6 [], oN 112 (.ixarr 3 1 (.t 3) (.c (.int .i64 2))) [], oD 113 1 112 [3], oA 114 1 5 [], oD 115 1 114 [5], oM 116 6 [], oN 117 (.ixsl 5 (.t 115) (.t 116)) [6, 7], oA 118 0 117 [8], oD 119 1 118 [9], oN 120 (.bin .add (.t 119) (.c (.int .i64 1))) [10], oA 121 1 5 [], oD 122 1 121 [12], oM 123 6 [], oN 124 (.ixsl 5 (.t 122) (.t 123)) [13, 14], oA 125 0 124 [15], oD 126 1 125 [16], oN 127 (.bin .sub (.t 126) (.c (.int .i64 1))) [17], oN 128 (.bslice 3 1 [(.int .i64 0)] 3 [(0, (.t 113)), (1, (.t 120)), (2, (.t 127))]) [4, 11, 18], oN 129 (.ixarr 3 1 (.t 3) (.c (.int .i64 2))) [], oD 130 1 129 [20], oN 131 (.call 57 [(.t 130), (.c (.int .i64 3))]) [21], oN 132 (.ixsl 1 (.t 128) (.t 131)) [19, 22], oD 133 1 132 [23], oN 134 (.ixsl 5 (.t 110) (.t 111)) [1, 2, 0, 1, 2, 3, 4, 5, 6, 7, 8, 9, 10, 11, 12, 13, 14, 15, 16, 17, 18, 19, 20, 21, 22, 23, 24], oA 135 0 134 [25, 0, 1, 2, 3, 4, 5, 6, 7, 8, 9, 10, 11, 12, 13, 14, 15, 16, 17, 18, 19, 20, 21, 22, 23, 24], ⟨none, (.st 1 (.t 135) (.t 133)), none, [26, 24, 22, 0, 1, 2, 3, 4, 5, 6, 7, 8, 9, 10, 11, 12, 13, 14, 15, 16, 17, 18, 19, 20, 21, 22, 23, 24]⟩] true) (.seq (.reg [oN 137 (.bin .eql (.t 55) (.c (.int .i64 5))) [], oM 136 137 [0]] false) (.cond (.t 136) (.reg [oA 138 1 5 [], oD 139 1 138 [0], oM 140 6 [], oN 141 (.slc 5 (.t 139) none (some (.t 140))) [1, 2], oA 142 1 5 [], oD 143 1 142 [4], oM 144 6 [], oN 145 (.bin .add (.t 144) (.c (.int .i64 1))) [6], oN 146 (.slc 5 (.t 143) (some (.t 145)) none) [5, 7], oN 147 (.app 51 5 40 [(.int .i64 0), (.int .i64 0), (.bool false), (.bool false), (.str (Qt []))] (.t 141) (.t 146)) [3, 8], oA 148 1 5 [0, 1, 2, 3, 4, 5, 6, 7, 8, 9], ⟨none, (.st 1 (.t 148) (.t 147)), none, [10, 9, 9, 0, 1, 2, 3, 4, 5, 6, 7, 8, 9]⟩] true) (.seq (.reg [oN 150 (.bin .eql (.t 55) (.c (.int .i64 6))) [], oM 149 150 [0]] false) (.cond (.t 149) (.reg [oN 151 (.ixarr 3 1 (.t 3) (.c (.int .i64 2))) [], oD 152 1 151 [0], oA 153 0 5 [], oD 154 1 153 [2], oN 155 (.bin .add (.t 154) (.c (.int .i64 1))) [3], oA 156 0 5 [], oD 157 1 156 [5], oN 158 (.bin .sub (.t 157) (.c (.int .i64 1))) [6], oN 159 (.bslice 3 1 [(.int .i64 0)] 3 [(0, (.t 152)), (1, (.t 155)), (2, (.t 158))]) [1, 4, 7], oN 160 (.ixarr 3 1 (.t 3) (.c (.int .i64 2))) [], oD 161 1 160 [9], oN 162 (.call 57 [(.t 161), (.c (.int .i64 3))]) [10], oN 163 (.ixsl 1 (.t 159) (.t 162)) [8, 11], oD 164 1 163 [12], oA 165 0 5 [0, 1, 2, 3, 4, 5, 6, 7, 8, 9, 10, 11, 12, 13], ⟨none, (.st 1 (.t 165) (.t 164)), none, [14, 13, 11, 0, 1, 2, 3, 4, 5, 6, 7, 8, 9, 10, 11, 12, 13]⟩] true) (.seq (.reg [oN 167 (.bin .eql (.t 55) (.c (.int .i64 7))) [], oM 166 167 [0]] false) (.cond (.t 166) (.reg [oA 168 2 5 [], oD 169 1 168 [0], oM 170 7 [], oA 171 2 5 [], oD 172 1 171 [3], oM 173 7 [], oN 174 (.ixsl 1 (.t 172) (.t 173)) [4, 5], oD 175 1 174 [6], oA 176 2 5 [], oD 177 1 176 [8], oM 178 7 [], oN 179 (.ixsl 1 (.t 177) (.t 178)) [9, 10], oD 180 1 179 [11], oN 181 (.slen (.t 180)) [12], oN 182 (.bin .sub (.t 181) (.c (.int .i64 1))) [13], oN 183 (.mx (.c (.int .i64 0)) (.t 182)) [14], oN 184 (.stake (.t 175) (.t 183)) [7, 15], oN 185 (.ixarr 3 1 (.t 3) (.c (.int .i64 2))) [], oD 186 1 185 [17], oN 187 (.cvt .u8 (.t 186)) [18], oN 188 (.bslice 5 1 [(.int .u8 0)] 1 [(0, (.t 187))]) [19], oN 189 (.b2s (.t 188)) [20], oN 190 (.scat (.t 184) (.t 189)) [16, 21], oN 191 (.ixsl 1 (.t 169) (.t 170)) [1, 2, 0, 1, 2, 3, 4, 5, 6, 7, 8, 9, 10, 11, 12, 13, 14, 15, 16, 17, 18, 19, 20, 21, 22], ⟨none, (.st 1 (.t 191) (.t 190)), none, [23, 22, 0, 1, 2, 3, 4, 5, 6, 7, 8, 9, 10, 11, 12, 13, 14, 15, 16, 17, 18, 19, 20, 21, 22]⟩] true) (.seq (.reg [oN 193 (.bin .eql (.t 55) (.c (.int .i64 8))) [], oM 192 193 [0]] false) (.cond (.t 192) (.reg [oA 194 2 5 [], oD 195 1 194 [0], oM 196 7 [], oA 197 2 5 [], oD 198 1 197 [3], oM 199 7 [], oN 200 (.ixsl 1 (.t 198) (.t 199)) [4, 5], oD 201 1 200 [6], oN 202 (.scat (.t 201) (.c (.str (Qt [120])))) [7], oN 203 (.ixsl 1 (.t 195) (.t 196)) [1, 2, 0, 1, 2, 3, 4, 5, 6, 7, 8], ⟨none, (.st 1 (.t 203) (.t 202)), none, [9, 8, 0, 1, 2, 3, 4, 5, 6, 7, 8]⟩] true) (.seq (.reg [oN 205 (.bin .eql (.t 55) (.c (.int .i64 9))) [], oM 204 205 [0]] false) (.cond (.t 204) (.reg [oA 206 2 5 [], oD 207 1 206 [0], oN 208 (.bslice 9 1 [(.str (Qt []))] 1 [(0, (.c (.str (Qt [49, 50, 51, 52, 53, 54, 55, 56]))))]) [], oN 209 (.app 9 1 16 [(.str (Qt []))] (.t 207) (.t 208)) [1, 2], oA 210 2 5 [0, 1, 2, 3], ⟨none, (.st 1 (.t 210) (.t 209)), none, [4, 3, 3, 0, 1, 2, 3]⟩] false) (.seq (.reg [oN 212 (.bin .eql (.t 55) (.c (.int .i64 10))) [], oM 211 212 [0]] false) (.cond (.t 211) (.reg [oA 213 2 5 [], oD 214 1 213 [0], oA 215 2 5 [], oD 216 1 215 [2], oN 217 (.len (.t 216)) [3], oN 218 (.bin .quo (.t 217) (.c (.int .i64 2))) [4], oN 219 (.slc 1 (.t 214) none (some (.t 218))) [1, 5], oA 220 2 5 [0, 1, 2, 3, 4, 5, 6], ⟨none, (.st 1 (.t 220) (.t 219)), none, [7, 6, 0, 1, 2, 3, 4, 5, 6]⟩] false) .skip)))))))))))))))))))))))) (.seq (.reg [oN 221 (.ld true 3 (.t 5)) [], ⟨none, (.st 3 (.t 4) (.t 221)), none, [0, 0]⟩] false) .ret))))))))
theorem mcOkv25 : (match Tryz.f25.body with | some c => Q0 Tryz.prog 222 c | none => none) = some mcv25 := by kernel_rfl
set_option maxHeartbeats 4000000 in
theorem vc25 (z : Int) (lv : List Lf) (hd : List (List Int)) (h : ShOK lv hd) (q0 q1 q2 : Int) : FC Tryz.prog 25 [.agg [.int .i64 z, .rs 5 (lv.map cLf), .rs 1 (hd.map cS)], .agg [iv q0, iv q1, iv q2]] [] (.agg (cSh (oddS z lv hd q0 q1 q2))) [] false := by
  have hnl := h.nl
  have hnh := h.nh
  unfold oddS oddF
  have hk0 := odd_k (x := q1) (n := (lv.length : Int)) (by omega)
  have hh0 := odd_k (x := q1) (n := (hd.length : Int)) (by omega)
  have hkk := (Int.toNat_of_nonneg (Jj q1 (max 1 (lv.length : Int)) (by omega)).1).symm
  have hhh := (Int.toNat_of_nonneg (Jj q1 (max 1 (hd.length : Int)) (by omega)).1).symm
  have hdd := (Int.toNat_of_nonneg (Jj q0 11 (by decide)).1).symm
  have hd1 := Jj q0 11 (by decide)
  generalize (modS q1 (max 1 (lv.length : Int))).toNat = k at hk0 hkk ⊢
  generalize (modS q1 (max 1 (hd.length : Int))).toNat = m at hh0 hhh ⊢
  generalize (modS q0 11).toNat = kd at hdd ⊢
  refine Qr (nt := 222) Tryz.func25 rfl rfl mcOkv25 (nL rfl) ?_
  delta mcv25
  refine Qb (Qc (Qf 3 rfl (Qa fun _ => Qd (Qb (Qc (Qo rfl rfl rfl rfl (nL rfl) rfl (Qi [] rfl rfl (vc31 z lv hd h.nl h.nh) (.cons (Qg rfl) .nil) rfl (QG rfl rfl rfl ?_))))))))
  refine Q1 rfl rfl rfl rfl rfl rfl rfl (nL rfl) rfl rfl (Qa fun _ => Qd (Qb (Qc (Q5 rfl rfl rfl (by decide) (by decide) (Qf 3 rfl (Xu rfl rfl (rs_mx rfl rfl rfl rfl (Qi [] rfl rfl (fc16 q1 (max 1 (lv.length : Int)) (by omega)) (.cons (Qg rfl) (.cons (Qg rfl) (.nil))) rfl ?_))))))))
  rw [hkk]
  refine Qe rfl rfl (Qa fun _ => Qd (Qb (Qc (Q5 rfl rfl rfl (by decide) (by decide) (Qf 3 rfl (Xu rfl rfl (rs_mx rfl rfl rfl rfl (Qi [] rfl rfl (fc16 q1 (max 1 (hd.length : Int)) (by omega)) (.cons (Qg rfl) (.cons (Qg rfl) (.nil))) rfl ?_))))))))
  rw [hhh]
  refine Qe rfl rfl (Qa fun _ => Qd (Qb (Qc (Q5 rfl rfl rfl (by decide) (by decide) (QY rfl rfl rfl rfl rfl ?_)))))
  obtain rfl | rfl | rfl | rfl | rfl | rfl | rfl | rfl | rfl | rfl | rfl : kd = 0 ∨ kd = 1 ∨ kd = 2 ∨ kd = 3 ∨ kd = 4 ∨ kd = 5 ∨ kd = 6 ∨ kd = 7 ∨ kd = 8 ∨ kd = 9 ∨ kd = 10 := by omega
  · skip
    refine Qi [] rfl rfl (fc16 q0 11 (by decide)) (.cons (Qg rfl) (.cons (Qg rfl) (.nil))) rfl ?_
    rw [hdd]
    refine Qe rfl rfl (Qa fun _ => Qd (Qb (Qb (Qc (Qe rfl rfl (QO rfl rfl rfl rfl (by decide) (Qf 3 rfl (Xu rfl rfl ?_))))))))
    refine QI rfl rfl rfl rfl (fun h34 => ?_) (fun h34 => ?_)
    · skip
      refine Qf 15 rfl (Qa fun _ => Qd (Qh rfl (fun _ => ?_) (fun h => by cases h)))
      refine Qb (Qc (Q5 rfl rfl rfl (by decide) (by decide) (QY rfl rfl rfl rfl rfl (Qi [] rfl rfl (fc16 q2 18 (by decide)) (.cons (Qg rfl) (.cons (Qg rfl) (.nil))) rfl (Q8 rfl rfl (Q1 rfl rfl rfl rfl rfl rfl rfl (nL rfl) rfl rfl (Qa fun _ => Qd (Qb ?_))))))))
      refine Qc (Qo rfl rfl rfl rfl (nL rfl) rfl (Q1 rfl rfl rfl rfl rfl rfl rfl (nL rfl) rfl rfl (Qa fun _ => Qd (Ql (Q3 ?_)))))
      rw [if_pos (show XT 0 lv.length hd.length from by unfold XT; omega)]
      exact Q6 rfl (X6 (.cons (QB rfl (.inr rfl)) (.cons (QK (f := cLf) (xs := lv) rfl rfl rfl (fun _ => rfl)) (.cons (QK (f := cS) (xs := hd) rfl rfl rfl (fun _ => rfl)) .nil)))) .nil
    · skip
      refine Qf 3 rfl (Qw rfl rfl rfl rfl (by decide) (Qf 11 rfl (Qa fun _ => Qd (Qh rfl (fun h => by cases h) (fun _ => ?_)))))
      refine Qn (Qd (Qb (Qb (Qc (Qe rfl rfl (Qa fun _ => Qd (Qm (Qb ?_))))))))
      refine Qc (QO rfl rfl rfl rfl (by decide) (Qe rfl rfl (Qa fun _ => Qd (Qh rfl (fun _ => ?_) (fun h => by cases h)))))
      refine Q7 Xq (Q8 rfl rfl ?_)
      have hkl : k < lv.length := by omega
      have hxk := lfK_at hkl
      have hxm := Xk hxk
      have hxg : lv[k] = lfK lv k := (List.getElem?_eq_some_iff.1 hxk).2
      refine Qf 5 rfl (X5 rfl rfl rfl rfl (by omega) (by omega) (Q8 rfl rfl (rs_ld_g (f := cLf) (xs := lv) (y := lfK lv k) rfl rfl rfl hxk rfl (rs_not rfl rfl (X5 rfl rfl rfl rfl (by omega) (by omega) (Q8 rfl rfl (rs_st_m (f := cLf) (xs := lv) (t := k) (v := ⟨(lfK lv k).ix, (lfK lv k).want, !(lfK lv k).sure, (lfK lv k).touched, (lfK lv k).salt⟩) (fl' := true) rfl rfl rfl rfl hkl rfl rfl (nL rfl) (by rw [hxg]; rfl) rfl (Qa ⟨by kernel_rfl, fun _ => ?_⟩))))))))
      refine QH (Qd (Qb (Qc (Qo rfl rfl rfl rfl (nL rfl) rfl (Q1 rfl rfl rfl rfl rfl rfl rfl (nL rfl) rfl rfl (Qa fun _ => Qd (Ql ?_)))))))
      rw [if_neg (show ¬ XT 0 lv.length hd.length from by unfold XT; omega)]
      exact Q6 rfl (X6 (.cons (QB rfl (.inr rfl)) (.cons (QK (f := cLf) (xs := (oddG 0 k m z lv hd q2).leaves) rfl rfl (by simp [oddG]) (fun _ => rfl)) (.cons (QK (f := cS) (xs := hd) rfl rfl rfl (fun _ => rfl)) .nil)))) .nil
  · skip
    refine Qi [] rfl rfl (fc16 q0 11 (by decide)) (.cons (Qg rfl) (.cons (Qg rfl) (.nil))) rfl ?_
    rw [hdd]
    refine Qe rfl rfl (Qa fun _ => Qd (Qb (Qb (Qc (Qe rfl rfl (QO rfl rfl rfl rfl (by decide) (Qf 3 rfl (Xu rfl rfl ?_))))))))
    refine QI rfl rfl rfl rfl (fun h34 => ?_) (fun h34 => ?_)
    · skip
      refine Qf 15 rfl (Qa fun _ => Qd (Qh rfl (fun _ => ?_) (fun h => by cases h)))
      refine Qb (Qc (Q5 rfl rfl rfl (by decide) (by decide) (QY rfl rfl rfl rfl rfl (Qi [] rfl rfl (fc16 q2 18 (by decide)) (.cons (Qg rfl) (.cons (Qg rfl) (.nil))) rfl (Q8 rfl rfl (Q1 rfl rfl rfl rfl rfl rfl rfl (nL rfl) rfl rfl (Qa fun _ => Qd (Qb ?_))))))))
      refine Qc (Qo rfl rfl rfl rfl (nL rfl) rfl (Q1 rfl rfl rfl rfl rfl rfl rfl (nL rfl) rfl rfl (Qa fun _ => Qd (Ql (Q3 ?_)))))
      rw [if_pos (show XT 1 lv.length hd.length from by unfold XT; omega)]
      exact Q6 rfl (X6 (.cons (QB rfl (.inr rfl)) (.cons (QK (f := cLf) (xs := lv) rfl rfl rfl (fun _ => rfl)) (.cons (QK (f := cS) (xs := hd) rfl rfl rfl (fun _ => rfl)) .nil)))) .nil
    · skip
      refine Qf 3 rfl (Qw rfl rfl rfl rfl (by decide) (Qf 11 rfl (Qa fun _ => Qd (Qh rfl (fun h => by cases h) (fun _ => ?_)))))
      refine Qn (Qd (Qb (Qb (Qc (Qe rfl rfl (Qa fun _ => Qd (Qm (Qb ?_))))))))
      refine Qc (Qw rfl rfl rfl rfl (by decide) (Qe rfl rfl (Qa fun _ => Qd (Qh rfl (fun h => by cases h) (fun _ => ?_)))))
      refine Qb (Qc (QO rfl rfl rfl rfl (by decide) (Qe rfl rfl (Qa fun _ => Qd (Qh rfl (fun _ => ?_) (fun h => by cases h))))))
      refine Q7 Xq (Q8 rfl rfl ?_)
      have hkl : k < lv.length := by omega
      have hxk := lfK_at hkl
      have hxm := Xk hxk
      have hxg : lv[k] = lfK lv k := (List.getElem?_eq_some_iff.1 hxk).2
      refine Qf 5 rfl (X5 rfl rfl rfl rfl (by omega) (by omega) (Q8 rfl rfl (rs_ld_g (f := cLf) (xs := lv) (y := lfK lv k) rfl rfl rfl hxk rfl (rs_not rfl rfl (X5 rfl rfl rfl rfl (by omega) (by omega) (Q8 rfl rfl (rs_st_m (f := cLf) (xs := lv) (t := k) (v := ⟨(lfK lv k).ix, (lfK lv k).want, (lfK lv k).sure, !(lfK lv k).touched, (lfK lv k).salt⟩) (fl' := true) rfl rfl rfl rfl hkl rfl rfl (nL rfl) (by rw [hxg]; rfl) rfl (Qa ⟨by kernel_rfl, fun _ => ?_⟩))))))))
      refine QH (Qd (Qb (Qc (Qo rfl rfl rfl rfl (nL rfl) rfl (Q1 rfl rfl rfl rfl rfl rfl rfl (nL rfl) rfl rfl (Qa fun _ => Qd (Ql ?_)))))))
      rw [if_neg (show ¬ XT 1 lv.length hd.length from by unfold XT; omega)]
      exact Q6 rfl (X6 (.cons (QB rfl (.inr rfl)) (.cons (QK (f := cLf) (xs := (oddG 1 k m z lv hd q2).leaves) rfl rfl (by simp [oddG]) (fun _ => rfl)) (.cons (QK (f := cS) (xs := hd) rfl rfl rfl (fun _ => rfl)) .nil)))) .nil
  · skip
    refine Qi [] rfl rfl (fc16 q0 11 (by decide)) (.cons (Qg rfl) (.cons (Qg rfl) (.nil))) rfl ?_
    rw [hdd]
    refine Qe rfl rfl (Qa fun _ => Qd (Qb (Qb (Qc (Qe rfl rfl (QO rfl rfl rfl rfl (by decide) (Qf 3 rfl (Xu rfl rfl ?_))))))))
    refine QI rfl rfl rfl rfl (fun h34 => ?_) (fun h34 => ?_)
    · skip
      refine Qf 15 rfl (Qa fun _ => Qd (Qh rfl (fun _ => ?_) (fun h => by cases h)))
      refine Qb (Qc (Q5 rfl rfl rfl (by decide) (by decide) (QY rfl rfl rfl rfl rfl (Qi [] rfl rfl (fc16 q2 18 (by decide)) (.cons (Qg rfl) (.cons (Qg rfl) (.nil))) rfl (Q8 rfl rfl (Q1 rfl rfl rfl rfl rfl rfl rfl (nL rfl) rfl rfl (Qa fun _ => Qd (Qb ?_))))))))
      refine Qc (Qo rfl rfl rfl rfl (nL rfl) rfl (Q1 rfl rfl rfl rfl rfl rfl rfl (nL rfl) rfl rfl (Qa fun _ => Qd (Ql (Q3 ?_)))))
      rw [if_pos (show XT 2 lv.length hd.length from by unfold XT; omega)]
      exact Q6 rfl (X6 (.cons (QB rfl (.inr rfl)) (.cons (QK (f := cLf) (xs := lv) rfl rfl rfl (fun _ => rfl)) (.cons (QK (f := cS) (xs := hd) rfl rfl rfl (fun _ => rfl)) .nil)))) .nil
    · skip
      refine Qf 3 rfl (Qw rfl rfl rfl rfl (by decide) (Qf 11 rfl (Qa fun _ => Qd (Qh rfl (fun h => by cases h) (fun _ => ?_)))))
      refine Qn (Qd (Qb (Qb (Qc (Qe rfl rfl (Qa fun _ => Qd (Qm (Qb ?_))))))))
      refine Qc (Qw rfl rfl rfl rfl (by decide) (Qe rfl rfl (Qa fun _ => Qd (Qh rfl (fun h => by cases h) (fun _ => ?_)))))
      refine Qb (Qc (Qw rfl rfl rfl rfl (by decide) (Qe rfl rfl (Qa fun _ => Qd (Qh rfl (fun h => by cases h) (fun _ => ?_))))))
      refine Qb (Qc (QO rfl rfl rfl rfl (by decide) (Qe rfl rfl (Qa fun _ => Qd (Qh rfl (fun _ => ?_) (fun h => by cases h))))))
      refine Qc (Q8 rfl rfl ?_)
      have hkl : k < lv.length := by omega
      have hxk := lfK_at hkl
      have hxm := Xk hxk
      have hxg : lv[k] = lfK lv k := (List.getElem?_eq_some_iff.1 hxk).2
      refine Qf 2 rfl (Q5 rfl rfl rfl (by decide) (by decide) (QY rfl rfl rfl rfl rfl (X5 rfl rfl rfl rfl (by omega) (by omega) (Q8 rfl rfl (rs_st_m (f := cLf) (xs := lv) (t := k) (v := ⟨(lfK lv k).ix, q2, (lfK lv k).sure, (lfK lv k).touched, (lfK lv k).salt⟩) (fl' := true) rfl rfl rfl rfl hkl rfl rfl (nL rfl) (by rw [hxg]; rfl) rfl (Qa fun _ => QH (Qd (Qb ?_))))))))
      refine Qc (Qo rfl rfl rfl rfl (nL rfl) rfl (Q1 rfl rfl rfl rfl rfl rfl rfl (nL rfl) rfl rfl (Qa fun _ => Qd (Ql ?_))))
      rw [if_neg (show ¬ XT 2 lv.length hd.length from by unfold XT; omega)]
      exact Q6 rfl (X6 (.cons (QB rfl (.inr rfl)) (.cons (QK (f := cLf) (xs := (oddG 2 k m z lv hd q2).leaves) rfl rfl (by simp [oddG]) (fun _ => rfl)) (.cons (QK (f := cS) (xs := hd) rfl rfl rfl (fun _ => rfl)) .nil)))) .nil
  · skip
    refine Qi [] rfl rfl (fc16 q0 11 (by decide)) (.cons (Qg rfl) (.cons (Qg rfl) (.nil))) rfl ?_
    rw [hdd]
    refine Qe rfl rfl (Qa fun _ => Qd (Qb (Qb (Qc (Qe rfl rfl (QO rfl rfl rfl rfl (by decide) (Qf 3 rfl (Xu rfl rfl ?_))))))))
    refine QI rfl rfl rfl rfl (fun h34 => ?_) (fun h34 => ?_)
    · skip
      refine Qf 15 rfl (Qa fun _ => Qd (Qh rfl (fun _ => ?_) (fun h => by cases h)))
      refine Qb (Qc (Q5 rfl rfl rfl (by decide) (by decide) (QY rfl rfl rfl rfl rfl (Qi [] rfl rfl (fc16 q2 18 (by decide)) (.cons (Qg rfl) (.cons (Qg rfl) (.nil))) rfl (Q8 rfl rfl (Q1 rfl rfl rfl rfl rfl rfl rfl (nL rfl) rfl rfl (Qa fun _ => Qd (Qb ?_))))))))
      refine Qc (Qo rfl rfl rfl rfl (nL rfl) rfl (Q1 rfl rfl rfl rfl rfl rfl rfl (nL rfl) rfl rfl (Qa fun _ => Qd (Ql (Q3 ?_)))))
      rw [if_pos (show XT 3 lv.length hd.length from by unfold XT; omega)]
      exact Q6 rfl (X6 (.cons (QB rfl (.inr rfl)) (.cons (QK (f := cLf) (xs := lv) rfl rfl rfl (fun _ => rfl)) (.cons (QK (f := cS) (xs := hd) rfl rfl rfl (fun _ => rfl)) .nil)))) .nil
    · skip
      refine Qf 3 rfl (Qw rfl rfl rfl rfl (by decide) (Qf 11 rfl (Qa fun _ => Qd (Qh rfl (fun h => by cases h) (fun _ => ?_)))))
      refine Qn (Qd (Qb (Qb (Qc (Qe rfl rfl (Qa fun _ => Qd (Qm (Qb ?_))))))))
      refine Qc (Qw rfl rfl rfl rfl (by decide) (Qe rfl rfl (Qa fun _ => Qd (Qh rfl (fun h => by cases h) (fun _ => ?_)))))
      refine Qb (Qc (Qw rfl rfl rfl rfl (by decide) (Qe rfl rfl (Qa fun _ => Qd (Qh rfl (fun h => by cases h) (fun _ => ?_))))))
      refine Qb (Qc (Qw rfl rfl rfl rfl (by decide) (Qe rfl rfl (Qa fun _ => Qd (Qh rfl (fun h => by cases h) (fun _ => ?_))))))
      refine Qb (Qc (QO rfl rfl rfl rfl (by decide) (Qe rfl rfl (Qa fun _ => Qd (Qh rfl (fun _ => ?_) (fun h => by cases h))))))
      refine Q7 Xq (Q8 rfl rfl ?_)
      have hkl : k < lv.length := by omega
      have hxk := lfK_at hkl
      have hxm := Xk hxk
      have hxg : lv[k] = lfK lv k := (List.getElem?_eq_some_iff.1 hxk).2
      refine Qf 5 rfl (X5 rfl rfl rfl rfl (by omega) (by omega) (Q8 rfl rfl (rs_ld_g (f := cLf) (xs := lv) (y := lfK lv k) rfl rfl rfl hxk rfl (XB (c := (lfK lv k).salt ++ [120]) rfl rfl rfl (by have := (h.ok _ hxm).n; simp only [List.length_cons, List.length_nil]; omega) rfl (X5 rfl rfl rfl rfl (by omega) (by omega) (Q8 rfl rfl (rs_st_m (f := cLf) (xs := lv) (t := k) (v := ⟨(lfK lv k).ix, (lfK lv k).want, (lfK lv k).sure, (lfK lv k).touched, (lfK lv k).salt ++ [120]⟩) (fl' := true) rfl rfl rfl rfl hkl rfl rfl (nL rfl) (by rw [hxg]; rfl) rfl (Qa ⟨by kernel_rfl, fun _ => ?_⟩))))))))
      refine QH (Qd (Qb (Qc (Qo rfl rfl rfl rfl (nL rfl) rfl (Q1 rfl rfl rfl rfl rfl rfl rfl (nL rfl) rfl rfl (Qa fun _ => Qd (Ql ?_)))))))
      rw [if_neg (show ¬ XT 3 lv.length hd.length from by unfold XT; omega)]
      exact Q6 rfl (X6 (.cons (QB rfl (.inr rfl)) (.cons (QK (f := cLf) (xs := (oddG 3 k m z lv hd q2).leaves) rfl rfl (by simp [oddG]) (fun _ => rfl)) (.cons (QK (f := cS) (xs := hd) rfl rfl rfl (fun _ => rfl)) .nil)))) .nil
  · skip
    refine Qi [] rfl rfl (fc16 q0 11 (by decide)) (.cons (Qg rfl) (.cons (Qg rfl) (.nil))) rfl ?_
    rw [hdd]
    refine Qe rfl rfl (Qa fun _ => Qd (Qb (Qb (Qc (Qe rfl rfl (QO rfl rfl rfl rfl (by decide) (Qf 3 rfl (Xu rfl rfl ?_))))))))
    refine QI rfl rfl rfl rfl (fun h34 => ?_) (fun h34 => ?_)
    · skip
      refine Qf 15 rfl (Qa fun _ => Qd (Qh rfl (fun _ => ?_) (fun h => by cases h)))
      refine Qb (Qc (Q5 rfl rfl rfl (by decide) (by decide) (QY rfl rfl rfl rfl rfl (Qi [] rfl rfl (fc16 q2 18 (by decide)) (.cons (Qg rfl) (.cons (Qg rfl) (.nil))) rfl (Q8 rfl rfl (Q1 rfl rfl rfl rfl rfl rfl rfl (nL rfl) rfl rfl (Qa fun _ => Qd (Qb ?_))))))))
      refine Qc (Qo rfl rfl rfl rfl (nL rfl) rfl (Q1 rfl rfl rfl rfl rfl rfl rfl (nL rfl) rfl rfl (Qa fun _ => Qd (Ql (Q3 ?_)))))
      rw [if_pos (show XT 4 lv.length hd.length from by unfold XT; omega)]
      exact Q6 rfl (X6 (.cons (QB rfl (.inr rfl)) (.cons (QK (f := cLf) (xs := lv) rfl rfl rfl (fun _ => rfl)) (.cons (QK (f := cS) (xs := hd) rfl rfl rfl (fun _ => rfl)) .nil)))) .nil
    · skip
      refine Qf 3 rfl (Qw rfl rfl rfl rfl (by decide) (Qf 11 rfl (Qa fun _ => Qd (Qh rfl (fun h => by cases h) (fun _ => ?_)))))
      refine Qn (Qd (Qb (Qb (Qc (Qe rfl rfl (Qa fun _ => Qd (Qm (Qb ?_))))))))
      refine Qc (Qw rfl rfl rfl rfl (by decide) (Qe rfl rfl (Qa fun _ => Qd (Qh rfl (fun h => by cases h) (fun _ => ?_)))))
      refine Qb (Qc (Qw rfl rfl rfl rfl (by decide) (Qe rfl rfl (Qa fun _ => Qd (Qh rfl (fun h => by cases h) (fun _ => ?_))))))
      refine Qb (Qc (Qw rfl rfl rfl rfl (by decide) (Qe rfl rfl (Qa fun _ => Qd (Qh rfl (fun h => by cases h) (fun _ => ?_))))))
      refine Qb (Qc (Qw rfl rfl rfl rfl (by decide) (Qe rfl rfl (Qa fun _ => Qd (Qh rfl (fun h => by cases h) (fun _ => ?_))))))
      refine Qb (Qc (QO rfl rfl rfl rfl (by decide) (Qe rfl rfl (Qa fun _ => Qd (Qh rfl (fun _ => ?_) (fun h => by cases h))))))
      refine Q7 Xq (Q8 rfl rfl ?_)
      have hkl : k < lv.length := by omega
      have hxk := lfK_at hkl
      have hxm := Xk hxk
      have hxg : lv[k] = lfK lv k := (List.getElem?_eq_some_iff.1 hxk).2
      have hp3 := Jj q2 3 (by decide)
      refine Qf 2 rfl (Q5 rfl rfl rfl (by decide) (by decide) (Qf 4 rfl (X5 rfl rfl rfl rfl (by omega) (by omega) (Q8 rfl rfl (rs_ld_g (f := cLf) (xs := lv) (y := lfK lv k) rfl rfl rfl hxk rfl (Xh rfl rfl rfl rfl (Qf 3 rfl (X5 rfl rfl rfl rfl (by omega) (by omega) (Q8 rfl rfl ?_)))))))))
      refine rs_ld_g (f := cLf) (xs := lv) (y := lfK lv k) rfl rfl rfl hxk rfl (Js rfl rfl rfl rfl (Qv (l := (([q2, W ((lfK lv k).ix + 1), W ((lfK lv k).ix - 1)] : List Int)).flatMap civ) (els := (([q2, W ((lfK lv k).ix + 1), W ((lfK lv k).ix - 1)] : List Int)).map civ) (fl := true) rfl (by kernel_rfl) rfl rfl (by kernel_rfl) (by kernel_rfl) (Q5 rfl rfl rfl (by decide) (by decide) (QY rfl rfl rfl rfl rfl (Qi [] rfl rfl (fc16 q2 3 (by decide)) (.cons (Qg rfl) (.cons (Qg rfl) (.nil))) rfl (X5 rfl rfl rfl rfl hp3.1 hp3.2 (rs_ld_g (f := civ) (xs := ([q2, W ((lfK lv k).ix + 1), W ((lfK lv k).ix - 1)] : List Int)) (y := pick3 q2 (W ((lfK lv k).ix + 1)) (W ((lfK lv k).ix - 1)) q2) rfl rfl rfl (pick3_at _ _ _ _) rfl (X5 rfl rfl rfl rfl (by omega) (by omega) (Q8 rfl rfl ?_)))))))))
      refine rs_st_m (f := cLf) (xs := lv) (t := k) (v := ⟨pick3 q2 (W ((lfK lv k).ix + 1)) (W ((lfK lv k).ix - 1)) q2, (lfK lv k).want, (lfK lv k).sure, (lfK lv k).touched, (lfK lv k).salt⟩) (fl' := true) rfl rfl rfl rfl hkl rfl rfl (nL rfl) (by rw [hxg]; rfl) rfl (Qa ⟨by kernel_rfl, fun _ => ?_⟩)
      refine QH (Qd (Qb (Qc (Qo rfl rfl rfl rfl (nL rfl) rfl (Q1 rfl rfl rfl rfl rfl rfl rfl (nL rfl) rfl rfl (Qa fun _ => Qd (Ql ?_)))))))
      rw [if_neg (show ¬ XT 4 lv.length hd.length from by unfold XT; omega)]
      exact Q6 rfl (X6 (.cons (QB rfl (.inr rfl)) (.cons (QK (f := cLf) (xs := (oddG 4 k m z lv hd q2).leaves) rfl rfl (by simp [oddG]) (fun _ => rfl)) (.cons (QK (f := cS) (xs := hd) rfl rfl rfl (fun _ => rfl)) .nil)))) .nil
  · skip
    refine Qi [] rfl rfl (fc16 q0 11 (by decide)) (.cons (Qg rfl) (.cons (Qg rfl) (.nil))) rfl ?_
    rw [hdd]
    refine Qe rfl rfl (Qa fun _ => Qd (Qb (Qb (Qc (Qe rfl rfl (QO rfl rfl rfl rfl (by decide) (Qf 3 rfl (Xu rfl rfl ?_))))))))
    refine QI rfl rfl rfl rfl (fun h34 => ?_) (fun h34 => ?_)
    · skip
      refine Qf 15 rfl (Qa fun _ => Qd (Qh rfl (fun _ => ?_) (fun h => by cases h)))
      refine Qb (Qc (Q5 rfl rfl rfl (by decide) (by decide) (QY rfl rfl rfl rfl rfl (Qi [] rfl rfl (fc16 q2 18 (by decide)) (.cons (Qg rfl) (.cons (Qg rfl) (.nil))) rfl (Q8 rfl rfl (Q1 rfl rfl rfl rfl rfl rfl rfl (nL rfl) rfl rfl (Qa fun _ => Qd (Qb ?_))))))))
      refine Qc (Qo rfl rfl rfl rfl (nL rfl) rfl (Q1 rfl rfl rfl rfl rfl rfl rfl (nL rfl) rfl rfl (Qa fun _ => Qd (Ql (Q3 ?_)))))
      rw [if_pos (show XT 5 lv.length hd.length from by unfold XT; omega)]
      exact Q6 rfl (X6 (.cons (QB rfl (.inr rfl)) (.cons (QK (f := cLf) (xs := lv) rfl rfl rfl (fun _ => rfl)) (.cons (QK (f := cS) (xs := hd) rfl rfl rfl (fun _ => rfl)) .nil)))) .nil
    · skip
      refine Qf 3 rfl (Qw rfl rfl rfl rfl (by decide) (Qf 11 rfl (Qa fun _ => Qd (Qh rfl (fun h => by cases h) (fun _ => ?_)))))
      refine Qn (Qd (Qb (Qb (Qc (Qe rfl rfl (Qa fun _ => Qd (Qm (Qb ?_))))))))
      refine Qc (Qw rfl rfl rfl rfl (by decide) (Qe rfl rfl (Qa fun _ => Qd (Qh rfl (fun h => by cases h) (fun _ => ?_)))))
      refine Qb (Qc (Qw rfl rfl rfl rfl (by decide) (Qe rfl rfl (Qa fun _ => Qd (Qh rfl (fun h => by cases h) (fun _ => ?_))))))
      refine Qb (Qc (Qw rfl rfl rfl rfl (by decide) (Qe rfl rfl (Qa fun _ => Qd (Qh rfl (fun h => by cases h) (fun _ => ?_))))))
      refine Qb (Qc (Qw rfl rfl rfl rfl (by decide) (Qe rfl rfl (Qa fun _ => Qd (Qh rfl (fun h => by cases h) (fun _ => ?_))))))
      refine Qb (Qc (Qw rfl rfl rfl rfl (by decide) (Qe rfl rfl (Qa fun _ => Qd (Qh rfl (fun h => by cases h) (fun _ => ?_))))))
      refine Qb (Qc (QO rfl rfl rfl rfl (by decide) (Qe rfl rfl (Qa fun _ => Qd (Qh rfl (fun _ => ?_) (fun h => by cases h))))))
      refine Q7 Xq (Q8 rfl rfl ?_)
      have hkl : k < lv.length := by omega
      have hxk := lfK_at hkl
      have hxm := Xk hxk
      have hxg : lv[k] = lfK lv k := (List.getElem?_eq_some_iff.1 hxk).2
      refine Qf 2 rfl (rs_slc_s (l := 0) (q := (k : Int)) rfl rfl rfl rfl rfl (by decide) (.inl rfl) (by omega) (by omega) (Qf 3 rfl (Qy rfl rfl rfl (by omega) ?_)))
      by_cases hlast : k + 1 < lv.length
      · skip
        refine rs_slc_s (l := (k : Int) + 1) (q := ((lv.length : Nat) : Int)) rfl rfl rfl rfl rfl (by omega) (.inr (by omega)) (by omega) (by omega) ?_
        have hdr : ∀ q r : Nat, q = k + 1 → r = lv.length - (k + 1) → ((lv.map cLf).drop q).take r = (lv.drop (k + 1)).map cLf := fun q r e e2 => by rw [e, e2, ← List.map_drop, List.take_of_length_le (by simp)]
        refine rs_app_o (n := k) (els := lv.map cLf) (news := (lv.drop (k + 1)).map cLf) (m := lv.length - (k + 1)) (fl' := true) rfl rfl rfl rfl (src_sub rfl (by simp; omega) (hdr _ _ (by omega) (by omega))) rfl rfl (by simp; omega) (by simp) (fun el hel => by obtain ⟨y, _, rfl⟩ := List.mem_map.1 hel; rfl) (by simp) (by omega) (by omega) (by rw [flat_map (f := cLf) (fun _ => rfl)]; rfl) (Q8 rfl rfl (Q1 rfl rfl rfl rfl rfl rfl rfl (nL rfl) rfl rfl (Qa ⟨by kernel_rfl, fun _ => ?_⟩)))
        refine QH (Qd (Qb (Qc (Qo rfl rfl rfl rfl (nL rfl) rfl (Q1 rfl rfl rfl rfl rfl rfl rfl (nL rfl) rfl rfl (Qa fun _ => Qd (Ql ?_)))))))
        rw [if_neg (show ¬ XT 5 lv.length hd.length from by unfold XT; omega)]
        exact Q6 rfl (X6 (.cons (QB rfl (.inr rfl)) (.cons (QK (f := cLf) (xs := lv.take k ++ lv.drop (k + 1)) (by rw [List.map_append, List.map_take]; rfl) rfl (by simp; omega) (fun _ => rfl)) (.cons (QK (f := cS) (xs := hd) rfl rfl rfl (fun _ => rfl)) .nil)))) .nil
      · skip
        refine rs_slc_e (l := (k : Int) + 1) rfl rfl rfl (by show some ((lv.length : Nat) : Int) = some ((k : Int) + 1); congr 1; omega) rfl (by omega) (by omega) (rs_app_o (n := k) (els := lv.map cLf) (news := []) (m := 0) (fl' := true) rfl rfl rfl rfl rfl rfl rfl (by simp; omega) (by simp) (by simp) rfl (by omega) (by omega) rfl (Q8 rfl rfl (Q1 rfl rfl rfl rfl rfl rfl rfl (nL rfl) rfl rfl (Qa ⟨by kernel_rfl, fun _ => ?_⟩))))
        refine QH (Qd (Qb (Qc (Qo rfl rfl rfl rfl (nL rfl) rfl (Q1 rfl rfl rfl rfl rfl rfl rfl (nL rfl) rfl rfl (Qa fun _ => Qd (Ql ?_)))))))
        rw [if_neg (show ¬ XT 5 lv.length hd.length from by unfold XT; omega)]
        exact Q6 rfl (X6 (.cons (QB rfl (.inr rfl)) (.cons (QK (f := cLf) (xs := lv.take k ++ lv.drop (k + 1)) (by show some (Ob.cells 51 5 ((lv.map cLf).take k ++ []) true) = _; rw [List.append_nil, List.drop_eq_nil_of_le (show lv.length ≤ k + 1 by omega), List.append_nil, List.map_take]) rfl (by simp; omega) (fun _ => rfl)) (.cons (QK (f := cS) (xs := hd) rfl rfl rfl (fun _ => rfl)) .nil)))) .nil
  · skip
    refine Qi [] rfl rfl (fc16 q0 11 (by decide)) (.cons (Qg rfl) (.cons (Qg rfl) (.nil))) rfl ?_
    rw [hdd]
    refine Qe rfl rfl (Qa fun _ => Qd (Qb (Qb (Qc (Qe rfl rfl (Qw rfl rfl rfl rfl (by decide) (Qf 8 rfl (Qw rfl rfl rfl rfl (by decide) ?_))))))))
    refine Qf 11 rfl (Qa fun _ => Qd (Qh rfl (fun h => by cases h) (fun _ => ?_)))
    refine Qn (Qd (Qb (Qb (Qc (Qe rfl rfl (Qa fun _ => Qd (Qm (Qb ?_))))))))
    refine Qc (Qw rfl rfl rfl rfl (by decide) (Qe rfl rfl (Qa fun _ => Qd (Qh rfl (fun h => by cases h) (fun _ => ?_)))))
    refine Qb (Qc (Qw rfl rfl rfl rfl (by decide) (Qe rfl rfl (Qa fun _ => Qd (Qh rfl (fun h => by cases h) (fun _ => ?_))))))
    refine Qb (Qc (Qw rfl rfl rfl rfl (by decide) (Qe rfl rfl (Qa fun _ => Qd (Qh rfl (fun h => by cases h) (fun _ => ?_))))))
    refine Qb (Qc (Qw rfl rfl rfl rfl (by decide) (Qe rfl rfl (Qa fun _ => Qd (Qh rfl (fun h => by cases h) (fun _ => ?_))))))
    refine Qb (Qc (Qw rfl rfl rfl rfl (by decide) (Qe rfl rfl (Qa fun _ => Qd (Qh rfl (fun h => by cases h) (fun _ => ?_))))))
    refine Qb (Qc (Qw rfl rfl rfl rfl (by decide) (Qe rfl rfl (Qa fun _ => Qd (Qh rfl (fun h => by cases h) (fun _ => ?_))))))
    refine Qb (Qc (QO rfl rfl rfl rfl (by decide) (Qe rfl rfl (Qa fun _ => Qd (Qh rfl (fun _ => ?_) (fun h => by cases h))))))
    refine Q7 Xq ?_
    have hp3 := Jj q2 3 (by decide)
    refine Q5 rfl rfl rfl (by decide) (by decide) (Qf 3 rfl (Xh rfl rfl rfl rfl (Qf 2 rfl (Js rfl rfl rfl rfl (Qv (l := (([q2, W (z + 1), W (z - 1)] : List Int)).flatMap civ) (els := (([q2, W (z + 1), W (z - 1)] : List Int)).map civ) (fl := true) rfl (by kernel_rfl) rfl rfl (by kernel_rfl) (by kernel_rfl) (Q5 rfl rfl rfl (by decide) (by decide) (QY rfl rfl rfl rfl rfl (Qi [] rfl rfl (fc16 q2 3 (by decide)) (.cons (Qg rfl) (.cons (Qg rfl) (.nil))) rfl (X5 rfl rfl rfl rfl hp3.1 hp3.2 ?_)))))))))
    refine rs_ld_g (f := civ) (xs := ([q2, W (z + 1), W (z - 1)] : List Int)) (y := pick3 q2 (W (z + 1)) (W (z - 1)) q2) rfl rfl rfl (pick3_at _ _ _ _) rfl (Q8 rfl rfl (Q1 rfl rfl rfl rfl rfl rfl rfl (nL rfl) rfl rfl (Qa ⟨by kernel_rfl, fun _ => ?_⟩)))
    refine QH (Qd (Qb (Qc (Qo rfl rfl rfl rfl (nL rfl) rfl (Q1 rfl rfl rfl rfl rfl rfl rfl (nL rfl) rfl rfl (Qa fun _ => Qd (Ql ?_)))))))
    rw [if_neg (show ¬ XT 6 lv.length hd.length from by unfold XT; omega)]
    exact Q6 rfl (X6 (.cons (QB rfl (.inr rfl)) (.cons (QK (f := cLf) (xs := lv) rfl rfl rfl (fun _ => rfl)) (.cons (QK (f := cS) (xs := hd) rfl rfl rfl (fun _ => rfl)) .nil)))) .nil
  · skip
    refine Qi [] rfl rfl (fc16 q0 11 (by decide)) (.cons (Qg rfl) (.cons (Qg rfl) (.nil))) rfl ?_
    rw [hdd]
    refine Qe rfl rfl (Qa fun _ => Qd (Qb (Qb (Qc (Qe rfl rfl (Qw rfl rfl rfl rfl (by decide) (Qf 8 rfl (QO rfl rfl rfl rfl (by decide) ?_))))))))
    refine Qf 2 rfl (QO rfl rfl rfl rfl (by decide) (Qf 4 rfl (Xu rfl rfl (QI rfl rfl rfl rfl (fun h47 => ?_) (fun h47 => ?_)))))
    · skip
      refine Qf 2 rfl (Qa fun _ => Qd (Qh rfl (fun _ => ?_) (fun h => by cases h)))
      refine Qb (Qc (Q5 rfl rfl rfl (by decide) (by decide) (QY rfl rfl rfl rfl rfl (Qi [] rfl rfl (fc16 q2 18 (by decide)) (.cons (Qg rfl) (.cons (Qg rfl) (.nil))) rfl (Q8 rfl rfl (Q1 rfl rfl rfl rfl rfl rfl rfl (nL rfl) rfl rfl (Qa fun _ => Qd (Qb ?_))))))))
      refine Qc (Qo rfl rfl rfl rfl (nL rfl) rfl (Q1 rfl rfl rfl rfl rfl rfl rfl (nL rfl) rfl rfl (Qa fun _ => Qd (Ql (Q3 ?_)))))
      rw [if_pos (show XT 7 lv.length hd.length from by unfold XT; omega)]
      exact Q6 rfl (X6 (.cons (QB rfl (.inr rfl)) (.cons (QK (f := cLf) (xs := lv) rfl rfl rfl (fun _ => rfl)) (.cons (QK (f := cS) (xs := hd) rfl rfl rfl (fun _ => rfl)) .nil)))) .nil
    · skip
      refine Qf 2 rfl (Qa fun _ => Qd (Qh rfl (fun h => by cases h) (fun _ => ?_)))
      refine Qn (Qd (Qb (Qb (Qc (Qe rfl rfl (Qa fun _ => Qd (Qm (Qb ?_))))))))
      refine Qc (Qw rfl rfl rfl rfl (by decide) (Qe rfl rfl (Qa fun _ => Qd (Qh rfl (fun h => by cases h) (fun _ => ?_)))))
      refine Qb (Qc (Qw rfl rfl rfl rfl (by decide) (Qe rfl rfl (Qa fun _ => Qd (Qh rfl (fun h => by cases h) (fun _ => ?_))))))
      refine Qb (Qc (Qw rfl rfl rfl rfl (by decide) (Qe rfl rfl (Qa fun _ => Qd (Qh rfl (fun h => by cases h) (fun _ => ?_))))))
      refine Qb (Qc (Qw rfl rfl rfl rfl (by decide) (Qe rfl rfl (Qa fun _ => Qd (Qh rfl (fun h => by cases h) (fun _ => ?_))))))
      refine Qb (Qc (Qw rfl rfl rfl rfl (by decide) (Qe rfl rfl (Qa fun _ => Qd (Qh rfl (fun h => by cases h) (fun _ => ?_))))))
      refine Qb (Qc (Qw rfl rfl rfl rfl (by decide) (Qe rfl rfl (Qa fun _ => Qd (Qh rfl (fun h => by cases h) (fun _ => ?_))))))
      refine Qb (Qc (Qw rfl rfl rfl rfl (by decide) (Qe rfl rfl (Qa fun _ => Qd (Qh rfl (fun h => by cases h) (fun _ => ?_))))))
      refine Qb (Qc (QO rfl rfl rfl rfl (by decide) (Qe rfl rfl (Qa fun _ => Qd (Qh rfl (fun _ => ?_) (fun h => by cases h))))))
      refine Q7 Xq (Q8 rfl rfl ?_)
      have hhl : m < hd.length := by omega
      have hxh := hdK_at hhl
      have hxm2 := Xk hxh
      refine Qf 5 rfl (X5 rfl rfl rfl rfl (by omega) (by omega) (rs_ld_g (f := cS) (xs := hd) (y := hd.getD m []) rfl rfl rfl hxh rfl (Qf 3 rfl (X5 rfl rfl rfl rfl (by omega) (by omega) (rs_ld_g (f := cS) (xs := hd) (y := hd.getD m []) rfl rfl rfl hxh rfl (rs_slen rfl rfl (rs_sub rfl rfl rfl (by have := (h.b _ hxm2).2; simp only [LIM] at this; omega) (rs_mx (c := (((hd.getD m []).length - 1 : Nat) : Int)) rfl rfl rfl (by omega) (rs_stake (c := (hd.getD m []).take ((hd.getD m []).length - 1)) rfl rfl rfl (by omega) (by omega) rfl ?_)))))))))
      refine Q5 rfl rfl rfl (by decide) (by decide) (QY rfl rfl rfl rfl rfl (Xi (m := b8 q2) rfl rfl rfl (Qv (l := (([b8 q2] : List Int)).flatMap cu8) (els := (([b8 q2] : List Int)).map cu8) (fl := true) rfl (by kernel_rfl) rfl rfl (by kernel_rfl) (by kernel_rfl) (rs_b2s (l := [b8 q2]) (rd := [188]) rfl rfl (bytesV_sl rfl rfl) (XB (c := (hd.getD m []).take ((hd.getD m []).length - 1) ++ [b8 q2]) rfl rfl rfl (by have := (h.b _ hxm2).2; simp only [LIM] at this; simp only [List.length_take, List.length_cons, List.length_nil]; omega) rfl (X5 rfl rfl rfl rfl (by omega) (by omega) (rs_st_m (f := cS) (xs := hd) (t := m) (v := (hd.getD m []).take ((hd.getD m []).length - 1) ++ [b8 q2]) (fl' := true) rfl rfl rfl rfl hhl rfl rfl (nL rfl) rfl rfl (Qa ⟨by kernel_rfl, fun _ => ?_⟩))))))))
      refine QH (Qd (Qb (Qc (Qo rfl rfl rfl rfl (nL rfl) rfl (Q1 rfl rfl rfl rfl rfl rfl rfl (nL rfl) rfl rfl (Qa fun _ => Qd (Ql ?_)))))))
      rw [if_neg (show ¬ XT 7 lv.length hd.length from by unfold XT; omega)]
      exact Q6 rfl (X6 (.cons (QB rfl (.inr rfl)) (.cons (QK (f := cLf) (xs := lv) rfl rfl rfl (fun _ => rfl)) (.cons (QK (f := cS) (xs := (oddG 7 k m z lv hd q2).hid) rfl rfl (by simp [oddG]) (fun _ => rfl)) .nil)))) .nil
  · skip
    refine Qi [] rfl rfl (fc16 q0 11 (by decide)) (.cons (Qg rfl) (.cons (Qg rfl) (.nil))) rfl ?_
    rw [hdd]
    refine Qe rfl rfl (Qa fun _ => Qd (Qb (Qb (Qc (Qe rfl rfl (Qw rfl rfl rfl rfl (by decide) (Qf 8 rfl (QO rfl rfl rfl rfl (by decide) ?_))))))))
    refine Qf 2 rfl (QO rfl rfl rfl rfl (by decide) (Qf 4 rfl (Xu rfl rfl (QI rfl rfl rfl rfl (fun h47 => ?_) (fun h47 => ?_)))))
    · skip
      refine Qf 2 rfl (Qa fun _ => Qd (Qh rfl (fun _ => ?_) (fun h => by cases h)))
      refine Qb (Qc (Q5 rfl rfl rfl (by decide) (by decide) (QY rfl rfl rfl rfl rfl (Qi [] rfl rfl (fc16 q2 18 (by decide)) (.cons (Qg rfl) (.cons (Qg rfl) (.nil))) rfl (Q8 rfl rfl (Q1 rfl rfl rfl rfl rfl rfl rfl (nL rfl) rfl rfl (Qa fun _ => Qd (Qb ?_))))))))
      refine Qc (Qo rfl rfl rfl rfl (nL rfl) rfl (Q1 rfl rfl rfl rfl rfl rfl rfl (nL rfl) rfl rfl (Qa fun _ => Qd (Ql (Q3 ?_)))))
      rw [if_pos (show XT 8 lv.length hd.length from by unfold XT; omega)]
      exact Q6 rfl (X6 (.cons (QB rfl (.inr rfl)) (.cons (QK (f := cLf) (xs := lv) rfl rfl rfl (fun _ => rfl)) (.cons (QK (f := cS) (xs := hd) rfl rfl rfl (fun _ => rfl)) .nil)))) .nil
    · skip
      refine Qf 2 rfl (Qa fun _ => Qd (Qh rfl (fun h => by cases h) (fun _ => ?_)))
      refine Qn (Qd (Qb (Qb (Qc (Qe rfl rfl (Qa fun _ => Qd (Qm (Qb ?_))))))))
      refine Qc (Qw rfl rfl rfl rfl (by decide) (Qe rfl rfl (Qa fun _ => Qd (Qh rfl (fun h => by cases h) (fun _ => ?_)))))
      refine Qb (Qc (Qw rfl rfl rfl rfl (by decide) (Qe rfl rfl (Qa fun _ => Qd (Qh rfl (fun h => by cases h) (fun _ => ?_))))))
      refine Qb (Qc (Qw rfl rfl rfl rfl (by decide) (Qe rfl rfl (Qa fun _ => Qd (Qh rfl (fun h => by cases h) (fun _ => ?_))))))
      refine Qb (Qc (Qw rfl rfl rfl rfl (by decide) (Qe rfl rfl (Qa fun _ => Qd (Qh rfl (fun h => by cases h) (fun _ => ?_))))))
      refine Qb (Qc (Qw rfl rfl rfl rfl (by decide) (Qe rfl rfl (Qa fun _ => Qd (Qh rfl (fun h => by cases h) (fun _ => ?_))))))
      refine Qb (Qc (Qw rfl rfl rfl rfl (by decide) (Qe rfl rfl (Qa fun _ => Qd (Qh rfl (fun h => by cases h) (fun _ => ?_))))))
      refine Qb (Qc (Qw rfl rfl rfl rfl (by decide) (Qe rfl rfl (Qa fun _ => Qd (Qh rfl (fun h => by cases h) (fun _ => ?_))))))
      refine Qb (Qc (Qw rfl rfl rfl rfl (by decide) (Qe rfl rfl (Qa fun _ => Qd (Qh rfl (fun h => by cases h) (fun _ => ?_))))))
      refine Qb (Qc (QO rfl rfl rfl rfl (by decide) (Qe rfl rfl (Qa fun _ => Qd (Qh rfl (fun _ => ?_) (fun h => by cases h))))))
      refine Q7 Xq (Q8 rfl rfl ?_)
      have hhl : m < hd.length := by omega
      have hxh := hdK_at hhl
      have hxm2 := Xk hxh
      refine Qf 5 rfl (X5 rfl rfl rfl rfl (by omega) (by omega) (rs_ld_g (f := cS) (xs := hd) (y := hd.getD m []) rfl rfl rfl hxh rfl (XB (c := hd.getD m [] ++ [120]) rfl rfl rfl (by have := (h.b _ hxm2).2; simp only [LIM] at this; simp only [List.length_cons, List.length_nil]; omega) rfl (X5 rfl rfl rfl rfl (by omega) (by omega) (rs_st_m (f := cS) (xs := hd) (t := m) (v := hd.getD m [] ++ [120]) (fl' := true) rfl rfl rfl rfl hhl rfl rfl (nL rfl) rfl rfl (Qa ⟨by kernel_rfl, fun _ => ?_⟩))))))
      refine QH (Qd (Qb (Qc (Qo rfl rfl rfl rfl (nL rfl) rfl (Q1 rfl rfl rfl rfl rfl rfl rfl (nL rfl) rfl rfl (Qa fun _ => Qd (Ql ?_)))))))
      rw [if_neg (show ¬ XT 8 lv.length hd.length from by unfold XT; omega)]
      exact Q6 rfl (X6 (.cons (QB rfl (.inr rfl)) (.cons (QK (f := cLf) (xs := lv) rfl rfl rfl (fun _ => rfl)) (.cons (QK (f := cS) (xs := (oddG 8 k m z lv hd q2).hid) rfl rfl (by simp [oddG]) (fun _ => rfl)) .nil)))) .nil
  · skip
    refine Qi [] rfl rfl (fc16 q0 11 (by decide)) (.cons (Qg rfl) (.cons (Qg rfl) (.nil))) rfl ?_
    rw [hdd]
    refine Qe rfl rfl (Qa fun _ => Qd (Qb (Qb (Qc (Qe rfl rfl (Qw rfl rfl rfl rfl (by decide) (Qf 8 rfl (QO rfl rfl rfl rfl (by decide) ?_))))))))
    refine Qf 2 rfl (Qw rfl rfl rfl rfl (by decide) (Qf 8 rfl (Qa fun _ => Qd (Qh rfl (fun h => by cases h) (fun _ => ?_)))))
    refine Qn (Qd (Qb (Qb (Qc (Qe rfl rfl (Qa fun _ => Qd (Qm (Qb ?_))))))))
    refine Qc (Qw rfl rfl rfl rfl (by decide) (Qe rfl rfl (Qa fun _ => Qd (Qh rfl (fun h => by cases h) (fun _ => ?_)))))
    refine Qb (Qc (Qw rfl rfl rfl rfl (by decide) (Qe rfl rfl (Qa fun _ => Qd (Qh rfl (fun h => by cases h) (fun _ => ?_))))))
    refine Qb (Qc (Qw rfl rfl rfl rfl (by decide) (Qe rfl rfl (Qa fun _ => Qd (Qh rfl (fun h => by cases h) (fun _ => ?_))))))
    refine Qb (Qc (Qw rfl rfl rfl rfl (by decide) (Qe rfl rfl (Qa fun _ => Qd (Qh rfl (fun h => by cases h) (fun _ => ?_))))))
    refine Qb (Qc (Qw rfl rfl rfl rfl (by decide) (Qe rfl rfl (Qa fun _ => Qd (Qh rfl (fun h => by cases h) (fun _ => ?_))))))
    refine Qb (Qc (Qw rfl rfl rfl rfl (by decide) (Qe rfl rfl (Qa fun _ => Qd (Qh rfl (fun h => by cases h) (fun _ => ?_))))))
    refine Qb (Qc (Qw rfl rfl rfl rfl (by decide) (Qe rfl rfl (Qa fun _ => Qd (Qh rfl (fun h => by cases h) (fun _ => ?_))))))
    refine Qb (Qc (Qw rfl rfl rfl rfl (by decide) (Qe rfl rfl (Qa fun _ => Qd (Qh rfl (fun h => by cases h) (fun _ => ?_))))))
    refine Qb (Qc (Qw rfl rfl rfl rfl (by decide) (Qe rfl rfl (Qa fun _ => Qd (Qh rfl (fun h => by cases h) (fun _ => ?_))))))
    refine Qb (Qc (QO rfl rfl rfl rfl (by decide) (Qe rfl rfl (Qa fun _ => Qd (Qh rfl (fun _ => ?_) (fun h => by cases h))))))
    refine Qc (Qf 2 rfl (Qv (l := (([[49, 50, 51, 52, 53, 54, 55, 56]] : List (List Int))).flatMap cS) (els := (([[49, 50, 51, 52, 53, 54, 55, 56]] : List (List Int))).map cS) (fl := true) rfl (by kernel_rfl) rfl rfl (by kernel_rfl) (by kernel_rfl) (QV (f := cS) (xs := hd) (y := [49, 50, 51, 52, 53, 54, 55, 56]) (fl' := true) rfl rfl rfl rfl (rfl) rfl rfl rfl (by decide) rfl (by omega) (by omega) rfl (Q8 rfl rfl (Q1 rfl rfl rfl rfl rfl rfl rfl (nL rfl) rfl rfl (Qa fun _ => QH (Qd (Qb ?_))))))))
    refine Qc (Qo rfl rfl rfl rfl (nL rfl) rfl (Q1 rfl rfl rfl rfl rfl rfl rfl (nL rfl) rfl rfl (Qa fun _ => Qd (Ql ?_))))
    rw [if_neg (show ¬ XT 9 lv.length hd.length from by unfold XT; omega)]
    exact Q6 rfl (X6 (.cons (QB rfl (.inr rfl)) (.cons (QK (f := cLf) (xs := lv) rfl rfl rfl (fun _ => rfl)) (.cons (QK (f := cS) (xs := hd ++ [[49, 50, 51, 52, 53, 54, 55, 56]]) rfl rfl (by simp) (fun _ => rfl)) .nil)))) .nil
  · skip
    refine Qi [] rfl rfl (fc16 q0 11 (by decide)) (.cons (Qg rfl) (.cons (Qg rfl) (.nil))) rfl ?_
    rw [hdd]
    refine Qe rfl rfl (Qa fun _ => Qd (Qb (Qb (Qc (Qe rfl rfl (Qw rfl rfl rfl rfl (by decide) (Qf 8 rfl (QO rfl rfl rfl rfl (by decide) ?_))))))))
    refine Qf 2 rfl (Qw rfl rfl rfl rfl (by decide) (Qf 8 rfl (Qa fun _ => Qd (Qh rfl (fun h => by cases h) (fun _ => ?_)))))
    refine Qn (Qd (Qb (Qb (Qc (Qe rfl rfl (Qa fun _ => Qd (Qm (Qb ?_))))))))
    refine Qc (Qw rfl rfl rfl rfl (by decide) (Qe rfl rfl (Qa fun _ => Qd (Qh rfl (fun h => by cases h) (fun _ => ?_)))))
    refine Qb (Qc (Qw rfl rfl rfl rfl (by decide) (Qe rfl rfl (Qa fun _ => Qd (Qh rfl (fun h => by cases h) (fun _ => ?_))))))
    refine Qb (Qc (Qw rfl rfl rfl rfl (by decide) (Qe rfl rfl (Qa fun _ => Qd (Qh rfl (fun h => by cases h) (fun _ => ?_))))))
    refine Qb (Qc (Qw rfl rfl rfl rfl (by decide) (Qe rfl rfl (Qa fun _ => Qd (Qh rfl (fun h => by cases h) (fun _ => ?_))))))
    refine Qb (Qc (Qw rfl rfl rfl rfl (by decide) (Qe rfl rfl (Qa fun _ => Qd (Qh rfl (fun h => by cases h) (fun _ => ?_))))))
    refine Qb (Qc (Qw rfl rfl rfl rfl (by decide) (Qe rfl rfl (Qa fun _ => Qd (Qh rfl (fun h => by cases h) (fun _ => ?_))))))
    refine Qb (Qc (Qw rfl rfl rfl rfl (by decide) (Qe rfl rfl (Qa fun _ => Qd (Qh rfl (fun h => by cases h) (fun _ => ?_))))))
    refine Qb (Qc (Qw rfl rfl rfl rfl (by decide) (Qe rfl rfl (Qa fun _ => Qd (Qh rfl (fun h => by cases h) (fun _ => ?_))))))
    refine Qb (Qc (Qw rfl rfl rfl rfl (by decide) (Qe rfl rfl (Qa fun _ => Qd (Qh rfl (fun h => by cases h) (fun _ => ?_))))))
    refine Qb (Qc (Qw rfl rfl rfl rfl (by decide) (Qe rfl rfl (Qa fun _ => Qd (Qh rfl (fun h => by cases h) (fun _ => ?_))))))
    refine Qb (Qc (QO rfl rfl rfl rfl (by decide) (Qe rfl rfl (Qa fun _ => Qd (Qh rfl (fun _ => ?_) (fun h => by cases h))))))
    refine Qc (Qf 4 rfl (Xu rfl rfl (Xz (c := ((hd.length / 2 : Nat) : Int)) rfl rfl rfl (by decide) (by rw [Int.tdiv_eq_ediv_of_nonneg (by omega), show IntKind.i64.wrap ((hd.length : Int) / 2) = (hd.length : Int) / 2 from W_eq (by omega)]; omega) (rs_slc_s (l := 0) (q := ((hd.length / 2 : Nat) : Int)) rfl rfl rfl rfl rfl (by decide) (.inl rfl) (by omega) (by omega) (Q8 rfl rfl (Q1 rfl rfl rfl rfl rfl rfl rfl (nL rfl) rfl rfl (Qa fun _ => QH (Qd ?_))))))))
    refine Qb (Qc (Qo rfl rfl rfl rfl (nL rfl) rfl (Q1 rfl rfl rfl rfl rfl rfl rfl (nL rfl) rfl rfl (Qa fun _ => Qd (Ql ?_)))))
    rw [if_neg (show ¬ XT 10 lv.length hd.length from by unfold XT; omega)]
    exact Q6 rfl (X6 (.cons (QB rfl (.inr rfl)) (.cons (QK (f := cLf) (xs := lv) rfl rfl rfl (fun _ => rfl)) (.cons (rc_frzT (f := cS) (xs := hd) (n := hd.length / 2) rfl rfl (by omega) (fun _ => rfl)) .nil)))) .nil
end Go.Proofs.YthfhaoogcpfboaaGreat

/-! Walks: VV. -/
namespace Go.Proofs.YthfhaoogcpfboaaGreat
open Go.RowKit
set_option maxRecDepth 100000
set_option linter.unusedVariables false
theorem aw_cutw {P : Program} {N : Nat} {Z : List Nat} {rn : Option Nat} {Q : Post} {F F0 : Fr} {H H0 : Hp} {x y : MC} (h1 : AW P N Z rn x (fun e F' H' => e = .normal ∧ Weak N Z F' H' F0 H0) F H) (h2 : AW P N Z rn y Q F0 H0) : AW P N Z rn (.seq x y) Q F H :=
  Qb (aw_mono h1 fun e F' H' ⟨he, hw⟩ => by subst he; exact Xl hw h2)
theorem rootF_8 {ls : List Lf} (h : LvsOK ls) : B8 (rootF ls) := (rootS_8 (by rw [List.length_map]; have := h.n; omega)).1
theorem XF {ls : List Lf} (h : LvsOK ls) {w : List Int} (hw : IxOK ls.length w) : ShOK (w.map (QX ls)) ((QU ls.length w).map (Xd ls)) where
  nl := by rw [List.length_map]; have := hw.n; omega
  nh := by rw [List.length_map]; have := hidA_len (w := w) h.n.2; omega
  ok x hx := by
    obtain ⟨i, hi, rfl⟩ := List.mem_map.1 hx
    exact h.ok _ (sel_mem (hw.bd i hi).1 (hw.bd i hi).2)
  b d hd := by
    obtain ⟨s, _, rfl⟩ := List.mem_map.1 hd
    exact (ofK_ok ls).tree _ _
end Go.Proofs.YthfhaoogcpfboaaGreat

/-! Walks: X0. -/
namespace Go.Proofs.YthfhaoogcpfboaaGreat
open Go.RowKit
set_option maxRecDepth 100000
set_option linter.unusedVariables false
/-- Have two Showns the same places? -/
def Jy (n : Int) (SL : List Lf) (oz : Int) (ol : List Lf) : Bool := decide (oz = n) && decide (QL ol = QL SL)
theorem sameO_len {n oz : Int} {SL ol : List Lf} (h : Jy n SL oz ol = true) : ol.length = SL.length := by
  simp only [Jy, Bool.and_eq_true, decide_eq_true_eq] at h
  have := congrArg List.length h.2
  simpa using this
theorem ch_ne {n oz : Int} {SL ol : List Lf} {SH oh : List (List Int)} (h : ((Jy n SL oz ol && decide (SH = oh)) && allZ Xs SL ol) = false) : Jx n SL SH oz ol oh ≠ 0 := by
  unfold Jx
  split
  · decide
  split
  · decide
  split
  · decide
  split
  · decide
  rename_i h1 h2 h3 h4
  exfalso
  have h2' : n = oz ∧ SH = oh ∧ QL SL = QL ol := by simpa using h2
  obtain ⟨a, b, c⟩ := h2'
  have h3' : allZ Xs SL ol = true := by simpa using h3
  rw [h3', Jy, decide_eq_true a.symm, decide_eq_true b, decide_eq_true c.symm] at h
  cases h
theorem made_b (L : List Int) : ∀ x ∈ madeS L, I64 x.ix ∧ I64 x.want ∧ B8 x.salt ∧ x.salt.length ≤ 16 := fun x hx => by
  have h := (made_ok L).ok x hx
  obtain ⟨k, hk⟩ := List.mem_iff_getElem?.1 hx
  exact ⟨h.i, h.w, h.b, by rw [mkS_at L _ k x hk, show (leafM L k (mkS L k).2).salt.length = 8 from (XV _).2]; decide⟩
theorem show_b {ls : List Lf} (h : LvsOK ls) (hb : ∀ x ∈ ls, I64 x.ix ∧ I64 x.want ∧ B8 x.salt ∧ x.salt.length ≤ 16) {w : List Int} (hw : IxOK ls.length w) : ShB 16 (w.map (QX ls)) ((QU ls.length w).map (Xd ls)) where
  nl := by rw [List.length_map]; exact hw.n
  nh := by rw [List.length_map]; exact hidA_len h.n.2
  ok x hx := by
    obtain ⟨i, hi, rfl⟩ := List.mem_map.1 hx
    exact hb _ (sel_mem (hw.bd i hi).1 (hw.bd i hi).2)
  b d hd := by
    obtain ⟨s, _, rfl⟩ := List.mem_map.1 hd
    exact ⟨((ofK_ok ls).tree _ _).1, by rw [hidT_8]; decide⟩
theorem root_8o {z : Int} {lv : List Lf} {hd : List (List Int)} (h : ∀ d ∈ hd, B8 d ∧ d.length ≤ LIM) (hok : ∀ x ∈ lv, x.OK) : B8 ((QW z lv hd).getD []) := by
  cases hf : fmS z lv hd with
  | none => rw [root_none (by rw [hf]; rfl)]; intro x hx; cases hx
  | some sp =>
    rw [← dgR_root hf]
    exact (dgR_8 h _ _ _).1
def mcv6 : MC := (.seq (.reg [oN 5 (.box 25 3 (.t 2)) [], oN 6 (.mv (.c (.bool false))) []] false) (.seq (.reg [oN 25 (.call 8 []) [], oM 7 25 [0, 0, 0]] false) (.seq (.reg [oM 26 0 [], oN 27 (.call 14 [(.t 26)]) [0], oM 8 27 [1, 1, 0, 1]] false) (.seq (.reg [oM 29 8 [], oM 30 1 [], oM 31 8 [], oN 32 (.len (.t 31)) [2], oN 33 (.call 21 [(.t 30), (.t 32)]) [1, 3], oN 34 (.call 22 [(.t 29), (.t 33)]) [0, 4, 4], oM 28 34 [5], oN 35 (.ext (.t 28) 0) [6], oN 36 (.ext (.t 28) 1) [6], oN 9 (.alloc 55 3 [(.int .i64 0), .nils, .nils]) [], ⟨none, (.st 3 (.t 9) (.t 35)), none, [9, 7, 5, 0, 1, 2, 3, 4, 5, 6, 7, 9]⟩, oM 10 36 [8, 10, 0, 1, 2, 3, 4, 5, 6, 7, 8, 9, 10]] false) (.seq (.seq (.reg [oM 37 10 [], oN 38 (.bin .neq (.t 37) (.c (.int .i64 0))) [0]] false) (.cond (.t 38) (.seq (.reg [oN 6 (.mv (.c (.bool false))) []] false) .ret) .skip)) (.seq (.reg [oN 39 (.ld true 3 (.t 9)) [], oN 40 (.ld true 3 (.t 5)) [], oN 41 (.call 25 [(.t 39), (.t 40)]) [0, 1], oN 11 (.alloc 55 3 [(.int .i64 0), .nils, .nils]) [], ⟨none, (.st 3 (.t 11) (.t 41)), none, [3, 2, 2, 0, 1, 2, 3]⟩] false) (.seq (.reg [oN 43 (.ld true 3 (.t 9)) [], oN 44 (.call 27 [(.t 43)]) [0], oM 42 44 [1], oN 45 (.ext (.t 42) 0) [2], oN 46 (.ext (.t 42) 1) [2], oM 12 45 [3, 1, 0, 1, 2, 3], oM 13 46 [4, 5, 0, 1, 2, 3, 4, 5]] false) (.seq (.reg [oN 48 (.ld true 3 (.t 11)) [], oN 49 (.call 27 [(.t 48)]) [0], oM 47 49 [1], oN 50 (.ext (.t 47) 0) [2], oN 51 (.ext (.t 47) 1) [2], oM 14 50 [3, 1, 0, 1, 2, 3], oM 15 51 [4, 5, 0, 1, 2, 3, 4, 5]] false) (.seq (.reg [oN 53 (.ld true 3 (.t 11)) [], oN 54 (.call 28 [(.t 53)]) [0], oM 52 54 [1], oN 55 (.ext (.t 52) 0) [2], oN 56 (.ext (.t 52) 1) [2], oM 16 55 [3, 1, 0, 1, 2, 3], oM 17 56 [4, 5, 0, 1, 2, 3, 4, 5]] false) (.seq (.seq (.reg [oM 57 13 [], oN 58 (.un .not (.t 57)) [0], oM 59 58 [1], pM 60 15 59 false [2], pM 61 17 59 false [2], oG 62 (.beq true (.t 60) (.t 61)) 59 false [3, 4, 2], oN 63 (.pick (.t 59) (.c (.bool true)) (.t 62)) [2, 5]] false) (.cond (.t 63) (.seq (.reg [oN 6 (.mv (.c (.bool false))) []] false) .ret) .skip)) (.seq (.seq (.reg [oN 64 (.ld true 3 (.t 9)) [], oN 65 (.ld true 3 (.t 11)) [], oN 66 (.call 24 [(.t 64), (.t 65)]) [0, 1]] false) (.cond (.t 66) (.seq (.reg [oM 67 7 [], oM 68 67 [0], pM 69 15 68 true [1], oN 70 (.pick (.t 68) (.t 69) (.c (.bool false))) [1, 2], oM 71 70 [3, 1], pM 72 14 71 true [4], pM 73 12 71 true [4], oG 74 (.seq false (.t 72) (.t 73)) 71 true [5, 6, 4], oN 75 (.pick (.t 71) (.t 74) (.c (.bool false))) [4, 7], oM 6 75 [8, 4, 0, 1, 2, 3, 4, 5, 6, 7, 8]] false) .ret) .skip)) (.seq (.reg [oA 76 0 11 [], oD 77 1 76 [0], oA 78 0 9 [], oD 79 1 78 [2], oN 80 (.bin .eql (.t 77) (.t 79)) [1, 3], oM 81 80 [4], oG 82 (.ld true 3 (.t 11)) 81 true [5], oG 83 (.call 33 [(.t 82)]) 81 true [6, 5, 5], oG 84 (.ld true 3 (.t 9)) 81 true [5], oG 85 (.call 33 [(.t 84)]) 81 true [8, 7, 5], oG 86 (.call 32 [(.t 83), (.t 85)]) 81 true [7, 9, 9, 5], oN 87 (.pick (.t 81) (.t 86) (.c (.bool false))) [5, 10], oM 18 87 [11, 10, 0, 1, 2, 3, 4, 5, 6, 7, 8, 9, 10, 11]] true) (.seq (.seq (.reg [oM 88 18 [], oM 89 88 [0], pM 90 15 89 true [1], oN 91 (.pick (.t 89) (.t 90) (.c (.bool false))) [1, 2], oM 92 91 [3, 1], pM 93 14 92 true [4], pM 94 12 92 true [4], oG 95 (.seq false (.t 93) (.t 94)) 92 true [5, 6, 4], oN 96 (.pick (.t 92) (.t 95) (.c (.bool false))) [4, 7]] false) (.cond (.t 96) (.seq (.reg [oN 98 (.ld true 3 (.t 11)) [], oN 99 (.call 28 [(.t 98)]) [0], oM 97 99 [1], oN 100 (.ext (.t 97) 0) [2], oN 101 (.ext (.t 97) 1) [2], oM 19 100 [3, 1, 0, 1, 2, 3], oM 20 101 [4, 5, 0, 1, 2, 3, 4, 5]] false) (.seq (.reg [oN 103 (.ld true 3 (.t 9)) [], oN 104 (.call 28 [(.t 103)]) [0], oM 102 104 [1], oN 105 (.ext (.t 102) 0) [2], oN 106 (.ext (.t 102) 1) [2], oM 21 105 [3, 1, 0, 1, 2, 3], oM 22 106 [4, 5, 0, 1, 2, 3, 4, 5]] false) (.seq (.reg [oM 107 19 [], oM 108 21 [], oN 109 (.seq true (.t 107) (.t 108)) [0, 1]] false) (.cond (.t 109) (.seq (.reg [oN 6 (.mv (.c (.bool false))) []] false) .ret) .skip)))) .skip)) (.seq (.reg [oM 110 18 [], oM 111 110 [0], pA 112 2 9 111 true [1], pD 113 1 112 111 true [2, 1], pA 114 2 11 111 true [1], pD 115 1 114 111 true [4, 1], oG 116 (.call 34 [(.t 113), (.t 115)]) 111 true [3, 5, 1, 1], oN 117 (.pick (.t 111) (.t 116) (.c (.bool false))) [1, 6], oM 23 117 [7, 6, 0, 1, 2, 3, 4, 5, 6, 7]] false) (.seq (.seq (.reg [oN 24 (.mv (.c (.int .i64 0))) []] false) (.block 0 (.loop (.seq (.seq (.reg [oM 118 23 [], oM 119 118 [0], pM 120 24 119 true [1], pA 121 1 9 119 true [1], pD 122 1 121 119 true [3, 1], oG 123 (.len (.t 122)) 119 true [4, 1], oG 124 (.bin .lss (.t 120) (.t 123)) 119 true [2, 5, 1], oN 125 (.pick (.t 119) (.t 124) (.c (.bool false))) [1, 6]] false) (.cond (.t 125) .skip (.exit 0))) (.seq (.block 1 (.reg [oA 128 1 9 [], oD 129 1 128 [0], oM 130 24 [], oN 131 (.ixsl 5 (.t 129) (.t 130)) [1, 2], oA 132 1 131 [3], oD 133 1 132 [4], oA 134 1 11 [], oD 135 1 134 [6], oM 136 24 [], oN 137 (.ixsl 5 (.t 135) (.t 136)) [7, 8], oA 138 1 137 [9], oD 139 1 138 [10], oN 140 (.bin .eql (.t 133) (.t 139)) [5, 11], oM 141 140 [12], pA 142 1 9 141 true [13], pD 143 1 142 141 true [14, 13], pM 144 24 141 true [13], oG 145 (.ixsl 5 (.t 143) (.t 144)) 141 true [15, 16, 13], pA 146 4 145 141 true [17, 13], pD 147 1 146 141 true [18, 13], pA 148 1 11 141 true [13], pD 149 1 148 141 true [20, 13], pM 150 24 141 true [13], oG 151 (.ixsl 5 (.t 149) (.t 150)) 141 true [21, 22, 13], pA 152 4 151 141 true [23, 13], pD 153 1 152 141 true [24, 13], oG 154 (.seq false (.t 147) (.t 153)) 141 true [19, 25, 13], oN 155 (.pick (.t 141) (.t 154) (.c (.bool false))) [13, 26], oM 23 155 [27, 13, 0, 1, 2, 3, 4, 5, 6, 7, 8, 9, 10, 11, 12, 13, 14, 15, 16, 17, 18, 19, 20, 21, 22, 23, 24, 25, 26, 27]] true)) (.reg [oM 126 24 [], oN 127 (.bin .add (.t 126) (.c (.int .i64 1))) [0], oM 24 127 [1, 0, 1]] false)))))) (.seq (.reg [oM 156 7 [], oM 157 156 [0], pM 158 23 157 true [1], pM 159 158 157 true [2, 1, 1], oG 160 (.ld true 3 (.t 9)) 159 false [3], oG 161 (.ld true 3 (.t 11)) 159 false [3], oG 162 (.call 29 [(.t 160), (.t 161)]) 159 false [4, 5, 3, 3], oG 163 (.bin .neq (.t 162) (.c (.int .i64 0))) 159 false [6, 3], oG 164 (.pick (.t 159) (.c (.bool true)) (.t 163)) 157 true [3, 7, 1], oN 165 (.pick (.t 157) (.t 164) (.c (.bool false))) [1, 8], oM 6 165 [9, 6, 0, 1, 2, 3, 4, 5, 6, 7, 8, 9]] false) .ret))))))))))))))))
theorem mcOkv6 : (match Tryz.f6.body with | some c => Q0 Tryz.prog 166 c | none => none) = some mcv6 := by kernel_rfl
set_option maxHeartbeats 4000000 in
theorem vc6 (L : List Int) (hL : L.length ≤ 4611686018427387904) (s q0 q1 q2 : Int) (hq : I64 q2) : FC Tryz.prog 6 [ints L, iv s, .agg [iv q0, iv q1, iv q2]] [] (.bool true) [] false := by
  refine Qr (nt := 166) Tryz.func6 rfl rfl mcOkv6 (nL rfl) ?_
  delta mcv6
  refine Qb (Qc (Qf 2 rfl (Qa fun _ => Qd (Qb (Qc (Qi [] rfl rfl (vc8) (.nil) rfl (Qe rfl rfl (Qa fun _ => ?_))))))))
  refine Qd (Qb (Qc (Qe rfl rfl (Qi [] rfl rfl (vc14 L hL) (.cons (Qg rfl) (.nil)) rfl (Qe rfl rfl (Qa fun _ => Qd (Qb ?_)))))))
  have hl := made_ok L
  have hlb := made_b L
  generalize madeS L = ls at hl hlb ⊢
  have hln := hl.n
  refine Qc (Qf 3 rfl (Qs rfl rfl (Qi [] rfl rfl (vc21 s ls.length (by omega)) (.cons (Qg rfl) (.cons (Qg rfl) (.nil))) rfl ?_)))
  have hw := some_ix s hl.n.2
  generalize J6 s ls.length = w at hw ⊢
  have hwn := hw.n
  have hha := hidA_len (w := w) hl.n.2
  have hsb := odd_ok (z := (ls.length : Int)) (q0 := q0) (q1 := q1) (show_b hl hlb hw) (by decide) hq
  refine Qi [] rfl rfl (vc22_ok ls hl w hw) (.cons (Qg rfl) (.cons (Qg rfl) (.nil))) rfl (Qf 4 rfl (Q1 rfl rfl rfl rfl rfl rfl rfl (nL rfl) rfl rfl (Qe rfl rfl (Qa fun _ => Qd (Qb (Qb (Qc (Qe rfl rfl ?_))))))))
  refine Qw rfl rfl rfl rfl (by decide) (Qa fun _ => Qd (Qh rfl (fun h => by cases h) (fun _ => ?_)))
  refine Qn (Qd (Qb (Qc (Qo rfl rfl rfl rfl (nL rfl) rfl (Qo rfl rfl rfl rfl (nL rfl) rfl (Qi [] rfl rfl (vc25 (ls.length : Int) (w.map (QX ls)) ((QU ls.length w).map (Xd ls)) (XF hl hw) q0 q1 q2) (.cons (Qg rfl) (.cons (Qg rfl) (.nil))) rfl (QG rfl rfl rfl (Q1 rfl rfl rfl rfl rfl rfl rfl (nL rfl) rfl rfl (Qa fun _ => ?_)))))))))
  refine Qd (Qb ?_)
  have hok := ShB.sh hsb (by decide)
  generalize hO : oddS (ls.length : Int) (w.map (QX ls)) ((QU ls.length w).map (Xd ls)) q0 q1 q2 = O at hok ⊢
  obtain ⟨oz, ol, oh⟩ := O
  replace hok : ShOK ol oh := hok
  refine Qc (Qo rfl rfl rfl rfl (nL rfl) rfl (Qi [] rfl rfl (vc27 (ls.length : Int) (w.map (QX ls)) ((QU ls.length w).map (Xd ls)) (XF hl hw)) (.cons (Qg rfl) (.nil)) rfl ?_))
  rw [root_show hl hw]
  refine Qf 5 rfl (Qa fun _ => Qd (Qb (Qc (Qo rfl rfl rfl rfl (nL rfl) rfl (Qi [] rfl rfl (vc27 oz ol oh hok) (.cons (Qg rfl) (.nil)) rfl (Qf 5 rfl (Qa fun _ => Qd ?_)))))))
  refine Qb (Qc (Qo rfl rfl rfl rfl (nL rfl) rfl (Qi [] rfl rfl (vc28 oz ol oh hok) (.cons (Qg rfl) (.nil)) rfl (Qf 5 rfl (Qa fun _ => Qd (Qb (Qb (Qc ?_))))))))
  refine Qf 5 rfl (rs_beq rfl rfl rfl ?_)
  rw [show (true != ((QW oz ol oh).isSome == (QW oz ol oh).isSome)) = false from by simp]
  refine QS rfl rfl rfl (Qa fun _ => Qd (Qh rfl (fun h => by cases h) (fun _ => ?_)))
  refine Qn (Qd (Qb (Qb (Qc (Qo rfl rfl rfl rfl (nL rfl) rfl (Qo rfl rfl rfl rfl (nL rfl) rfl (Qi [] rfl rfl (vc24 (ls.length : Int) (w.map (QX ls)) ((QU ls.length w).map (Xd ls)) (XF hl hw) oz ol oh hok) (.cons (Qg rfl) (.cons (Qg rfl) (.nil))) rfl ?_)))))))
  cases h66 : decide ((⟨(ls.length : Int), (w.map (QX ls)), ((QU ls.length w).map (Xd ls))⟩ : Shn) = ⟨oz, ol, oh⟩)
  · skip
    refine Qa fun _ => Qd (Qh rfl (fun h => by cases h) (fun _ => ?_))
    refine Qn (Qd (aw_cutw (F0 := [(7, .bool true), (9, .ptr 9 0 0), (11, .ptr 11 0 0), (12, .str (Qt (rootF ls))), (14, .str (Qt ((QW oz ol oh).getD []))), (15, .bool (QW oz ol oh).isSome), (18, .bool (Jy (ls.length : Int) (w.map (QX ls)) oz ol))]) (H0 := [(9, .cells 55 3 [cSh (showS ls w)] true), (11, .cells 55 3 [[iv oz, .rs 5 (ol.map cLf), .rs 1 (oh.map cS)]] true)]) ?_ ?_))
    · skip
      refine Q7 Xq (Qf 4 rfl (QI rfl rfl rfl rfl (fun h80 => ?_) (fun h80 => ?_)))
      · skip
        refine Qe rfl rfl (Qo rfl rfl rfl rfl (nL rfl) rfl (Qi [] rfl rfl (vc33 oz ol oh hok.nl) (.cons (Qg rfl) (.nil)) rfl (Qo rfl rfl rfl rfl (nL rfl) rfl (Qi [] rfl rfl (vc33 (ls.length : Int) (w.map (QX ls)) ((QU ls.length w).map (Xd ls)) (XF hl hw).nl) (.cons (Qg rfl) (.nil)) rfl (Qi [] rfl rfl (vc32 (QL ol) (QL (w.map (QX ls))) (by simp; have := hok.nl; omega)) (.cons (Qg rfl) (.cons (Qg rfl) (.nil))) rfl ?_)))))
        cases h86 : decide (QL ol = QL (w.map (QX ls)))
        · skip
          refine Qf 2 rfl (Qa ⟨by kernel_rfl, fun _ => ?_⟩)
          exact ⟨rfl, Qj (.cs (.cs (.cs (.cs (.cs (.cs (.cons rfl (XU (by unfold Jy; rw [show decide (oz = (ls.length : Int)) = true from decide_eq_true h80, h86]; rfl) rfl) (.nil)))))))) (.keep (rfl) rfl (.keep (rfl) rfl (.nil))) (fun i h => by cases h)⟩
        · skip
          refine Qf 2 rfl (Qa ⟨by kernel_rfl, fun _ => ?_⟩)
          exact ⟨rfl, Qj (.cs (.cs (.cs (.cs (.cs (.cs (.cons rfl (XU (by unfold Jy; rw [show decide (oz = (ls.length : Int)) = true from decide_eq_true h80, h86]; rfl) rfl) (.nil)))))))) (.keep (rfl) rfl (.keep (rfl) rfl (.nil))) (fun i h => by cases h)⟩
      · skip
        refine Qf 8 rfl (Qa ⟨by kernel_rfl, fun _ => ?_⟩)
        exact ⟨rfl, Qj (.cs (.cs (.cs (.cs (.cs (.cs (.cons rfl (XU (by unfold Jy; rw [show decide (oz = (ls.length : Int)) = false from decide_eq_false h80]; rfl) rfl) (.nil)))))))) (.keep (rfl) rfl (.keep (rfl) rfl (.nil))) (fun i h => by cases h)⟩
    · skip
      refine Qb (aw_cutw (F0 := [(7, .bool true), (9, .ptr 9 0 0), (11, .ptr 11 0 0), (12, .str (Qt (rootF ls))), (14, .str (Qt ((QW oz ol oh).getD []))), (15, .bool (QW oz ol oh).isSome), (18, .bool (Jy (ls.length : Int) (w.map (QX ls)) oz ol)), (96, .bool (Jy (ls.length : Int) (w.map (QX ls)) oz ol && ((QW oz ol oh).isSome && decide ((QW oz ol oh).getD [] = rootF ls))))]) (H0 := [(9, .cells 55 3 [cSh (showS ls w)] true), (11, .cells 55 3 [[iv oz, .rs 5 (ol.map cLf), .rs 1 (oh.map cS)]] true)]) ?_ ?_)
      · skip
        refine Qc (Qe rfl rfl ?_)
        cases h88 : Jy (ls.length : Int) (w.map (QX ls)) oz ol
        · skip
          refine Qf 8 rfl (Qa fun _ => ?_)
          exact ⟨rfl, Qj (.cs (.cs (.cs (.cs (.cs (.cs (.cs (.cons rfl (XU rfl rfl) (.nil))))))))) (.keep (rfl) rfl (.keep (rfl) rfl (.nil))) (fun i h => by cases h)⟩
        · skip
          refine Qf 2 rfl ?_
          cases h90 : (QW oz ol oh).isSome
          · skip
            refine Qf 6 rfl (Qa fun _ => ?_)
            exact ⟨rfl, Qj (.cs (.cs (.cs (.cs (.cs (.cs (.cs (.cons rfl (XU rfl rfl) (.nil))))))))) (.keep (rfl) rfl (.keep (rfl) rfl (.nil))) (fun i h => by cases h)⟩
          · skip
            refine Qf 4 rfl (J9 (r := decide ((QW oz ol oh).getD [] = rootF ls)) rfl rfl rfl (root_8o hok.b hok.ok) (rootF_8 hl) (by simp) ?_)
            cases h95 : decide ((QW oz ol oh).getD [] = rootF ls)
            · skip
              refine QS rfl rfl rfl (Qa fun _ => ?_)
              exact ⟨rfl, Qj (.cs (.cs (.cs (.cs (.cs (.cs (.cs (.cons rfl (XU rfl rfl) (.nil))))))))) (.keep (rfl) rfl (.keep (rfl) rfl (.nil))) (fun i h => by cases h)⟩
            · skip
              refine QS rfl rfl rfl (Qa fun _ => ?_)
              exact ⟨rfl, Qj (.cs (.cs (.cs (.cs (.cs (.cs (.cs (.cons rfl (XU rfl rfl) (.nil))))))))) (.keep (rfl) rfl (.keep (rfl) rfl (.nil))) (fun i h => by cases h)⟩
      · skip
        refine Qh rfl (fun h96 => ?_) (fun h96 => ?_)
        · skip
          refine Qb ?_
          have hroot : (QW oz ol oh).getD [] = rootF ls := by simp only [Bool.and_eq_true, decide_eq_true_eq] at h96; exact h96.2.2
          refine Qc (Qo rfl rfl rfl rfl (nL rfl) rfl (Qi [] rfl rfl (vc28 oz ol oh hok) (.cons (Qg rfl) (.nil)) rfl (Qf 5 rfl (Qa fun _ => Qd (Qb (Qc (Qo rfl rfl rfl rfl (nL rfl) rfl (Qi [] rfl rfl (vc28 (ls.length : Int) (w.map (QX ls)) ((QU ls.length w).map (Xd ls)) (XF hl hw)) (.cons (Qg rfl) (.nil)) rfl ?_))))))))
          rw [root_show hl hw]
          refine Qf 5 rfl (Qa fun _ => Qd (Qb (Qc (Qf 2 rfl (J9 (r := false) rfl rfl rfl (root_8o hok.b hok.ok) (rootF_8 hl) (by show (true != decide ((QW oz ol oh).getD [] = rootF ls)) = false; rw [decide_eq_true hroot]; rfl) (Qa fun _ => Qd (Qh rfl (fun h => by cases h) (fun _ => ?_))))))))
          refine Qn (Qd (aw_cutw (F0 := [(7, .bool true), (9, .ptr 9 0 0), (11, .ptr 11 0 0), (12, .str (Qt (rootF ls))), (14, .str (Qt ((QW oz ol oh).getD []))), (15, .bool (QW oz ol oh).isSome), (18, .bool (Jy (ls.length : Int) (w.map (QX ls)) oz ol)), (23, .bool (Jy (ls.length : Int) (w.map (QX ls)) oz ol && decide (((QU ls.length w).map (Xd ls)) = oh)))]) (H0 := [(9, .cells 55 3 [cSh (showS ls w)] true), (11, .cells 55 3 [[iv oz, .rs 5 (ol.map cLf), .rs 1 (oh.map cS)]] true)]) ?_ ?_))
          · skip
            refine Qc (Qe rfl rfl ?_)
            cases h110 : Jy (ls.length : Int) (w.map (QX ls)) oz ol
            · skip
              refine Qf 8 rfl (Qa fun _ => ?_)
              exact ⟨rfl, Qj (.cs (.cs (.cs (.cs (.cs (.cs (.cs (.cons rfl (XU rfl rfl) (.nil))))))))) (.keep (rfl) rfl (.keep (rfl) rfl (.nil))) (fun i h => by cases h)⟩
            · skip
              refine Qf 5 rfl (Qi [] rfl rfl (vc34 ((QU ls.length w).map (Xd ls)) oh (fun d hd => ((XF hl hw).b d hd).1) (fun d hd => (hok.b d hd).1) (by have := (XF hl hw).nh; omega)) (.cons (Qg rfl) (.cons (Qg rfl) (.nil))) rfl ?_)
              cases h116 : decide (((QU ls.length w).map (Xd ls)) = oh)
              · skip
                refine Qf 2 rfl (Qa fun _ => ?_)
                exact ⟨rfl, Qj (.cs (.cs (.cs (.cs (.cs (.cs (.cs (.cons rfl (XU rfl rfl) (.nil))))))))) (.keep (rfl) rfl (.keep (rfl) rfl (.nil))) (fun i h => by cases h)⟩
              · skip
                refine Qf 2 rfl (Qa fun _ => ?_)
                exact ⟨rfl, Qj (.cs (.cs (.cs (.cs (.cs (.cs (.cs (.cons rfl (XU rfl rfl) (.nil))))))))) (.keep (rfl) rfl (.keep (rfl) rfl (.nil))) (fun i h => by cases h)⟩
          · skip
            refine Qb (Qb (Qc (Qe rfl rfl (Qa fun _ => Qd (Qm ?_)))))
            refine QC (α := Nat × Bool) (fun u => (w.map (QX ls)).length - u.1) (fun u => [(7, .bool true), (9, .ptr 9 0 0), (11, .ptr 11 0 0), (12, .str (Qt (rootF ls))), (14, .str (Qt ((QW oz ol oh).getD []))), (15, .bool (QW oz ol oh).isSome), (18, .bool (Jy (ls.length : Int) (w.map (QX ls)) oz ol)), (23, .bool u.2), (24, iv (((u.1) : Nat) : Int))]) (fun u => [(9, .cells 55 3 [cSh (showS ls w)] true), (11, .cells 55 3 [[iv oz, .rs 5 (ol.map cLf), .rs 1 (oh.map cS)]] true)]) (fun u => u.1 ≤ (w.map (QX ls)).length ∧ (u.2 && allZ Xs ((w.map (QX ls)).drop u.1) (ol.drop u.1)) = ((Jy (ls.length : Int) (w.map (QX ls)) oz ol && decide (((QU ls.length w).map (Xd ls)) = oh)) && allZ Xs (w.map (QX ls)) ol) ∧ (u.2 = true → ol.length = (w.map (QX ls)).length)) (0, (Jy (ls.length : Int) (w.map (QX ls)) oz ol && decide (((QU ls.length w).map (Xd ls)) = oh))) (⟨Nat.zero_le _, rfl, fun h => sameO_len (by simp only [Bool.and_eq_true] at h; exact h.1)⟩)
              (Qj (.cs (.cs (.cs (.cs (.cs (.cs (.cs (.cs (.cs (.nil)))))))))) (.keep (rfl) rfl (.keep (rfl) rfl (.nil))) (fun i h => by cases h)) ?_
            rintro ⟨k, st⟩ ⟨hk, hinv, hlen⟩
            dsimp only at hk hinv hlen ⊢
            refine Qb (Qb (Qc (Qe rfl rfl ?_)))
            cases h118 : st
            · skip
              refine Qf 7 rfl (Qa fun _ => Qd (Qh rfl (fun h => by cases h) (fun _ => ?_)))
              refine Q4 (QA (QA (Q9 (Qd (Qb ?_)))))
              have hne := ch_ne (by rw [← hinv, h118]; rfl)
              refine Qc (Qf 4 rfl (Qo rfl rfl rfl rfl (nL rfl) rfl (Qo rfl rfl rfl rfl (nL rfl) rfl (Qi [] rfl rfl (vc29 (ls.length : Int) (w.map (QX ls)) ((QU ls.length w).map (Xd ls)) (XF hl hw) oz ol oh hok) (.cons (Qg rfl) (.cons (Qg rfl) (.nil))) rfl (QO rfl rfl rfl rfl hne (Qf 3 rfl (Qa fun _ => Qd (Ql ?_))))))))
              exact Qk rfl rfl rfl (.inr rfl)
            · skip
              refine Qf 4 rfl (Qs rfl rfl (QI rfl rfl rfl rfl (fun h124 => ?_) (fun h124 => ?_)))
              · skip
                refine QS rfl rfl rfl (Qa fun _ => Qd (Qh rfl (fun _ => ?_) (fun h => by cases h)))
                refine Qn (Qd (Qb (Qm (Q7 Xq (Qf 3 rfl ?_)))))
                replace h124 : (k : Int) < (((w.map (QX ls)).length : Nat) : Int) := h124
                obtain ⟨x, hxk, hxm⟩ := Qz (L := (w.map (QX ls))) (k := k) (by omega)
                obtain ⟨y, hyk, hym⟩ := Qz (L := ol) (k := k) (by have := hlen h118; omega)
                refine Qu (f := cLf) (xs := (w.map (QX ls))) (y := x) rfl rfl rfl (by omega) hxk (Qf 5 rfl (Qu (f := cLf) (xs := ol) (y := y) rfl rfl rfl (by omega) hyk (Qf 2 rfl (QI rfl rfl rfl rfl (fun h140 => ?_) (fun h140 => ?_)))))
                · skip
                  refine Qf 4 rfl (Qu (f := cLf) (xs := (w.map (QX ls))) (y := x) rfl rfl rfl (by omega) hxk (Qf 5 rfl (Qu (f := cLf) (xs := ol) (y := y) rfl rfl rfl (by omega) hyk (Qf 2 rfl (J9 (r := decide (x.salt = y.salt)) rfl rfl rfl ((XF hl hw).ok x hxm).b (hok.ok y hym).b (by simp) ?_)))))
                  cases h154 : decide (x.salt = y.salt)
                  · skip
                    refine Qf 2 rfl (Qa ⟨by kernel_rfl, fun _ => ?_⟩)
                    refine QH (Qd (Qc (Qe rfl rfl (Qy rfl rfl rfl (by have := (XF hl hw).nl; omega) (Qe rfl rfl (Qa fun _ => Qd ?_))))))
                    have hws : Xs x y = false := by simp only [Xs, decide_eq_true h140, h154]; rfl
                    rw [XW hxk hyk, hws, h118, Bool.true_and] at hinv
                    exact ⟨(k + 1, false), ⟨by show k + 1 ≤ _; omega, hinv, fun _ => hlen h118⟩, by show _ - (k + 1) < _ - k; omega, Qj (.cs (.cs (.cs (.cs (.cs (.cs (.cs (.cs (.cs (.nil)))))))))) (.keep (rfl) rfl (.keep (rfl) rfl (.nil))) (fun i h => by cases h)⟩
                  · skip
                    refine Qf 2 rfl (Qa ⟨by kernel_rfl, fun _ => ?_⟩)
                    refine QH (Qd (Qc (Qe rfl rfl (Qy rfl rfl rfl (by have := (XF hl hw).nl; omega) (Qe rfl rfl (Qa fun _ => Qd ?_))))))
                    have hws : Xs x y = true := by simp only [Xs, decide_eq_true h140, h154]; rfl
                    rw [XW hxk hyk, hws, h118, Bool.true_and] at hinv
                    exact ⟨(k + 1, true), ⟨by show k + 1 ≤ _; omega, hinv, fun _ => hlen h118⟩, by show _ - (k + 1) < _ - k; omega, Qj (.cs (.cs (.cs (.cs (.cs (.cs (.cs (.cs (.cs (.nil)))))))))) (.keep (rfl) rfl (.keep (rfl) rfl (.nil))) (fun i h => by cases h)⟩
                · skip
                  refine Qf 16 rfl (Qa ⟨by kernel_rfl, fun _ => ?_⟩)
                  refine QH (Qd (Qc (Qe rfl rfl (Qy rfl rfl rfl (by have := (XF hl hw).nl; omega) (Qe rfl rfl (Qa fun _ => Qd ?_))))))
                  have hws : Xs x y = false := by simp only [Xs, decide_eq_false h140]; rfl
                  rw [XW hxk hyk, hws, h118, Bool.true_and] at hinv
                  exact ⟨(k + 1, false), ⟨by show k + 1 ≤ _; omega, hinv, fun _ => hlen h118⟩, by show _ - (k + 1) < _ - k; omega, Qj (.cs (.cs (.cs (.cs (.cs (.cs (.cs (.cs (.cs (.nil)))))))))) (.keep (rfl) rfl (.keep (rfl) rfl (.nil))) (fun i h => by cases h)⟩
              · skip
                refine QS rfl rfl rfl (Qa fun _ => Qd (Qh rfl (fun h => by cases h) (fun _ => ?_)))
                refine Q4 (QA (QA (Q9 (Qd (Qb ?_)))))
                
                refine Qc (Qf 11 rfl (Qa fun _ => Qd (Ql ?_)))
                exact Qk rfl rfl rfl (.inr rfl)
        · skip
          refine Qn (Qd (aw_cutw (F0 := [(7, .bool true), (9, .ptr 9 0 0), (11, .ptr 11 0 0), (12, .str (Qt (rootF ls))), (14, .str (Qt ((QW oz ol oh).getD []))), (15, .bool (QW oz ol oh).isSome), (18, .bool (Jy (ls.length : Int) (w.map (QX ls)) oz ol)), (23, .bool (Jy (ls.length : Int) (w.map (QX ls)) oz ol && decide (((QU ls.length w).map (Xd ls)) = oh)))]) (H0 := [(9, .cells 55 3 [cSh (showS ls w)] true), (11, .cells 55 3 [[iv oz, .rs 5 (ol.map cLf), .rs 1 (oh.map cS)]] true)]) ?_ ?_))
          · skip
            refine Qc (Qe rfl rfl ?_)
            cases h110 : Jy (ls.length : Int) (w.map (QX ls)) oz ol
            · skip
              refine Qf 8 rfl (Qa fun _ => ?_)
              exact ⟨rfl, Qj (.cs (.cs (.cs (.cs (.cs (.cs (.cs (.cons rfl (XU rfl rfl) (.nil))))))))) (.keep (rfl) rfl (.keep (rfl) rfl (.nil))) (fun i h => by cases h)⟩
            · skip
              refine Qf 5 rfl (Qi [] rfl rfl (vc34 ((QU ls.length w).map (Xd ls)) oh (fun d hd => ((XF hl hw).b d hd).1) (fun d hd => (hok.b d hd).1) (by have := (XF hl hw).nh; omega)) (.cons (Qg rfl) (.cons (Qg rfl) (.nil))) rfl ?_)
              cases h116 : decide (((QU ls.length w).map (Xd ls)) = oh)
              · skip
                refine Qf 2 rfl (Qa fun _ => ?_)
                exact ⟨rfl, Qj (.cs (.cs (.cs (.cs (.cs (.cs (.cs (.cons rfl (XU rfl rfl) (.nil))))))))) (.keep (rfl) rfl (.keep (rfl) rfl (.nil))) (fun i h => by cases h)⟩
              · skip
                refine Qf 2 rfl (Qa fun _ => ?_)
                exact ⟨rfl, Qj (.cs (.cs (.cs (.cs (.cs (.cs (.cs (.cons rfl (XU rfl rfl) (.nil))))))))) (.keep (rfl) rfl (.keep (rfl) rfl (.nil))) (fun i h => by cases h)⟩
          · skip
            refine Qb (Qb (Qc (Qe rfl rfl (Qa fun _ => Qd (Qm ?_)))))
            refine QC (α := Nat × Bool) (fun u => (w.map (QX ls)).length - u.1) (fun u => [(7, .bool true), (9, .ptr 9 0 0), (11, .ptr 11 0 0), (12, .str (Qt (rootF ls))), (14, .str (Qt ((QW oz ol oh).getD []))), (15, .bool (QW oz ol oh).isSome), (18, .bool (Jy (ls.length : Int) (w.map (QX ls)) oz ol)), (23, .bool u.2), (24, iv (((u.1) : Nat) : Int))]) (fun u => [(9, .cells 55 3 [cSh (showS ls w)] true), (11, .cells 55 3 [[iv oz, .rs 5 (ol.map cLf), .rs 1 (oh.map cS)]] true)]) (fun u => u.1 ≤ (w.map (QX ls)).length ∧ (u.2 && allZ Xs ((w.map (QX ls)).drop u.1) (ol.drop u.1)) = ((Jy (ls.length : Int) (w.map (QX ls)) oz ol && decide (((QU ls.length w).map (Xd ls)) = oh)) && allZ Xs (w.map (QX ls)) ol) ∧ (u.2 = true → ol.length = (w.map (QX ls)).length)) (0, (Jy (ls.length : Int) (w.map (QX ls)) oz ol && decide (((QU ls.length w).map (Xd ls)) = oh))) (⟨Nat.zero_le _, rfl, fun h => sameO_len (by simp only [Bool.and_eq_true] at h; exact h.1)⟩)
              (Qj (.cs (.cs (.cs (.cs (.cs (.cs (.cs (.cs (.cs (.nil)))))))))) (.keep (rfl) rfl (.keep (rfl) rfl (.nil))) (fun i h => by cases h)) ?_
            rintro ⟨k, st⟩ ⟨hk, hinv, hlen⟩
            dsimp only at hk hinv hlen ⊢
            refine Qb (Qb (Qc (Qe rfl rfl ?_)))
            cases h118 : st
            · skip
              refine Qf 7 rfl (Qa fun _ => Qd (Qh rfl (fun h => by cases h) (fun _ => ?_)))
              refine Q4 (QA (QA (Q9 (Qd (Qb ?_)))))
              have hne := ch_ne (by rw [← hinv, h118]; rfl)
              refine Qc (Qf 4 rfl (Qo rfl rfl rfl rfl (nL rfl) rfl (Qo rfl rfl rfl rfl (nL rfl) rfl (Qi [] rfl rfl (vc29 (ls.length : Int) (w.map (QX ls)) ((QU ls.length w).map (Xd ls)) (XF hl hw) oz ol oh hok) (.cons (Qg rfl) (.cons (Qg rfl) (.nil))) rfl (QO rfl rfl rfl rfl hne (Qf 3 rfl (Qa fun _ => Qd (Ql ?_))))))))
              exact Qk rfl rfl rfl (.inr rfl)
            · skip
              refine Qf 4 rfl (Qs rfl rfl (QI rfl rfl rfl rfl (fun h124 => ?_) (fun h124 => ?_)))
              · skip
                refine QS rfl rfl rfl (Qa fun _ => Qd (Qh rfl (fun _ => ?_) (fun h => by cases h)))
                refine Qn (Qd (Qb (Qm (Q7 Xq (Qf 3 rfl ?_)))))
                replace h124 : (k : Int) < (((w.map (QX ls)).length : Nat) : Int) := h124
                obtain ⟨x, hxk, hxm⟩ := Qz (L := (w.map (QX ls))) (k := k) (by omega)
                obtain ⟨y, hyk, hym⟩ := Qz (L := ol) (k := k) (by have := hlen h118; omega)
                refine Qu (f := cLf) (xs := (w.map (QX ls))) (y := x) rfl rfl rfl (by omega) hxk (Qf 5 rfl (Qu (f := cLf) (xs := ol) (y := y) rfl rfl rfl (by omega) hyk (Qf 2 rfl (QI rfl rfl rfl rfl (fun h140 => ?_) (fun h140 => ?_)))))
                · skip
                  refine Qf 4 rfl (Qu (f := cLf) (xs := (w.map (QX ls))) (y := x) rfl rfl rfl (by omega) hxk (Qf 5 rfl (Qu (f := cLf) (xs := ol) (y := y) rfl rfl rfl (by omega) hyk (Qf 2 rfl (J9 (r := decide (x.salt = y.salt)) rfl rfl rfl ((XF hl hw).ok x hxm).b (hok.ok y hym).b (by simp) ?_)))))
                  cases h154 : decide (x.salt = y.salt)
                  · skip
                    refine Qf 2 rfl (Qa ⟨by kernel_rfl, fun _ => ?_⟩)
                    refine QH (Qd (Qc (Qe rfl rfl (Qy rfl rfl rfl (by have := (XF hl hw).nl; omega) (Qe rfl rfl (Qa fun _ => Qd ?_))))))
                    have hws : Xs x y = false := by simp only [Xs, decide_eq_true h140, h154]; rfl
                    rw [XW hxk hyk, hws, h118, Bool.true_and] at hinv
                    exact ⟨(k + 1, false), ⟨by show k + 1 ≤ _; omega, hinv, fun _ => hlen h118⟩, by show _ - (k + 1) < _ - k; omega, Qj (.cs (.cs (.cs (.cs (.cs (.cs (.cs (.cs (.cs (.nil)))))))))) (.keep (rfl) rfl (.keep (rfl) rfl (.nil))) (fun i h => by cases h)⟩
                  · skip
                    refine Qf 2 rfl (Qa ⟨by kernel_rfl, fun _ => ?_⟩)
                    refine QH (Qd (Qc (Qe rfl rfl (Qy rfl rfl rfl (by have := (XF hl hw).nl; omega) (Qe rfl rfl (Qa fun _ => Qd ?_))))))
                    have hws : Xs x y = true := by simp only [Xs, decide_eq_true h140, h154]; rfl
                    rw [XW hxk hyk, hws, h118, Bool.true_and] at hinv
                    exact ⟨(k + 1, true), ⟨by show k + 1 ≤ _; omega, hinv, fun _ => hlen h118⟩, by show _ - (k + 1) < _ - k; omega, Qj (.cs (.cs (.cs (.cs (.cs (.cs (.cs (.cs (.cs (.nil)))))))))) (.keep (rfl) rfl (.keep (rfl) rfl (.nil))) (fun i h => by cases h)⟩
                · skip
                  refine Qf 16 rfl (Qa ⟨by kernel_rfl, fun _ => ?_⟩)
                  refine QH (Qd (Qc (Qe rfl rfl (Qy rfl rfl rfl (by have := (XF hl hw).nl; omega) (Qe rfl rfl (Qa fun _ => Qd ?_))))))
                  have hws : Xs x y = false := by simp only [Xs, decide_eq_false h140]; rfl
                  rw [XW hxk hyk, hws, h118, Bool.true_and] at hinv
                  exact ⟨(k + 1, false), ⟨by show k + 1 ≤ _; omega, hinv, fun _ => hlen h118⟩, by show _ - (k + 1) < _ - k; omega, Qj (.cs (.cs (.cs (.cs (.cs (.cs (.cs (.cs (.cs (.nil)))))))))) (.keep (rfl) rfl (.keep (rfl) rfl (.nil))) (fun i h => by cases h)⟩
              · skip
                refine QS rfl rfl rfl (Qa fun _ => Qd (Qh rfl (fun h => by cases h) (fun _ => ?_)))
                refine Q4 (QA (QA (Q9 (Qd (Qb ?_)))))
                
                refine Qc (Qf 11 rfl (Qa fun _ => Qd (Ql ?_)))
                exact Qk rfl rfl rfl (.inr rfl)
  · skip
    refine Qa fun _ => Qd (Qh rfl (fun _ => ?_) (fun h => by cases h))
    refine Qb ?_
    have hE := of_decide_eq_true h66
    injection hE with e1 e2 e3
    subst e1 e2 e3
    rw [root_show hl hw]
    refine Qc (Qf 7 rfl (J9 (r := true) rfl rfl rfl (rootF_8 hl) (rootF_8 hl) (by simp) (Qf 2 rfl (Qa fun _ => Qd (Ql (Q3 ?_))))))
    exact Qk rfl rfl rfl (.inr rfl)
end Go.Proofs.YthfhaoogcpfboaaGreat

/-! The arguments of the laws of reveal, as they are read. -/
namespace Go.Proofs.YthfhaoogcpfboaaGreat
open Go.RowKit Go.WideShapes Go.ChangeShapes Go.ChangeAt
set_option maxRecDepth 100000
theorem own_knob : ownKnob Tryz.prog.godebug = none := by kernel_rfl
theorem laid_out : laidOutB Tryz.prog = true := by kernel_rfl
theorem rd_i {H : Type} (d : DataW H) (h : Gd (.int .i64) d) : ∃ n : Int, True ∧ avD (.int .i64) d = ci n := by
  obtain ⟨n, _, e⟩ := rd_int d h
  exact ⟨n, trivial, e⟩
theorem rd_i6 {H : Type} (d : DataW H) (h : Gd (.int .i64) d) : ∃ n : Int, (-9223372036854775808 ≤ n ∧ n < 9223372036854775808) ∧ avD (.int .i64) d = ci n := by
  obtain ⟨n, hw, e⟩ := rd_int d h
  have := bounds_i64 hw
  exact ⟨n, by omega, e⟩
end Go.Proofs.YthfhaoogcpfboaaGreat
namespace Go.Proofs.YthfhaoogcpfboaaGreat
open Go.RowKit Go.WideShapes Go.ChangeShapes Go.ChangeAt
set_option maxRecDepth 100000
abbrev shs6 : List Sh := [.sl 1 (.int .i64), .int .i64, .arr 3 (.int .i64)]
theorem lifted6 (os : Os) (started : os.Started) (H : Type) (enc : TypeId × Value → H) :
    ReturnsInHanded {} Tryz.checked os 6 .any (Rows.revealBindsSpec.pre6 enc Tryz.prog Tryz.f6 Rows.revealBindsRow.domain false) (Rows.revealBindsSpec.post enc Tryz.prog Tryz.f6 false true false false) := by
  refine law_row (C := Tryz.checked) own_knob started (by kernel_rfl) Tryz.func6 laid_out rfl (tb := 4) rfl Tryz.underlying4 shs6 (by kernel_rfl) (fun ds h => ?_)
    (ChangeSpec.witness6 (enc := enc) (C := Tryz.checked) false ⟨#[], #[.slice none 0 0, .int .i64 0, .agg #[.int .i64 0, .int .i64 0, .int .i64 0]], []⟩ 8 (by kernel_rfl) (by kernel_rfl) (by kernel_rfl) (by kernel_rfl)) fun ds hg => ⟨false, ?_⟩
  · match ds, h with
    | [_, _, _], _ => rfl
  · simp only [shs6, GdFs] at hg
    obtain ⟨d0, _, rfl, g0, d1, _, rfl, g1, d2, _, rfl, g2, rfl⟩ := hg
    obtain ⟨L, ⟨hl_L, hr_L⟩, e0⟩ := rd_sl _ ci rd_i d0 g0
    obtain ⟨s, _, e1⟩ := rd_i d1 g1
    obtain ⟨q2, ⟨hq2, hr2⟩, e2⟩ := rd_arr _ ci rd_i6 d2 g2
    match q2, hq2 with
    | [q0, q1, q2], _ =>
      have e : argAs shs6 [d0, d1, d2] = [.rs 1 (L.map ci), iv s, .agg [iv q0, iv q1, iv q2]] := by
        simp only [argAs, shs6]
        simp only [argA]
        rw [e0, e1, e2]
        rfl
      rw [e]
      exact vc6 L (Nat.le_trans hl_L (by decide)) s q0 q1 q2 (hr2 q2 (by simp))
theorem over6 : Rows.revealBindsRow.holds Tryz.pinned (OpenSpec.ofChange Rows.revealBindsSpec) :=
  OpenClaim.holds_of_wide 6 Tryz.f6 rfl rfl rfl rfl rfl rfl rfl ⟨rfl, rfl, rfl, rfl, rfl⟩ rfl rfl rfl rfl rfl (by kernel_rfl) Tryz.func6 (by kernel_rfl)
    (of_decide_eq_true (by kernel_rfl)) (by unfold Func.isWrapper; rw [if_neg (of_decide_eq_false (by kernel_rfl))]; exact ⟨rfl, rfl⟩)
    (fun os started H enc _ => lifted6 os started H enc)
theorem revealBinds_holds : Rows.RevealBindsSaid := over6
#print axioms revealBinds_holds
end Go.Proofs.YthfhaoogcpfboaaGreat
