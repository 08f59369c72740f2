/-
  Proved: colletlaw15.MoveOuter returns true for every input, and its arguments read as before. No condition.
-/
import Derived.Test.YteommcdafifckaaK5
import Derived.Test.YteommcdafifckaaRows
set_option linter.unusedVariables false

/-! Walks: M10p. -/
namespace Go.Proofs.Yteommcdafifckaa
open Go.RowKit

theorem tmodr (a d : Int) (ha : 0 ≤ a) (hd : 0 < d) : 0 ≤ a.tmod d ∧ a.tmod d < d := by
  rw [Int.tmod_eq_emod_of_nonneg ha]
  exact ⟨Int.emod_nonneg _ (by omega), Int.emod_lt_of_pos _ hd⟩
theorem rs_beq_f {P : Program} {N : Nat} {F : Fr} {H : Hp} {ml : List MOper} {K : List Fp → Fr → Hp → Prop} {d : Nat} {g : Option (Nat × Bool)} {pre : List Nat} {x y : Arg} {a b : Bool} (e : a = b) (hg : gOK F g = true) (hx : aarg F x = some (.bool a)) (hy : aarg F y = some (.bool b))
    (h : RS P N ml ((d, .bool false) :: F) H (fun fps => K (([], []) :: fps))) : RS P N (⟨some d, .beq true x y, g, pre⟩ :: ml) F H K := by
  subst e; exact rs_beq_same hg hx hy h
theorem fc27d {m : Mv} (h : InM m) : FC Try.prog 27 [aV m.to, aV m.fr] [] (aV (dS m)) [] false := fc27s h.to.big h.fr.big
abbrev yV (a b c : Int) : V3 := ⟨a.tmod 41 - 20, b.tmod 41 - 20, c.tmod 41 - 20⟩
theorem y_bd {a b c : Int} (ha : 0 ≤ a ∧ a < 256) (hb : 0 ≤ b ∧ b < 256) (hc : 0 ≤ c ∧ c < 256) : Bd 20 (yV a b c) := by
  have h1 := tmodr a 41 ha.1 (by decide)
  have h2 := tmodr b 41 hb.1 (by decide)
  have h3 := tmodr c 41 hc.1 (by decide)
  exact ⟨by dsimp only; omega, by dsimp only; omega, by dsimp only; omega⟩
theorem mem_succ {α : Type} [DecidableEq α] {l : List α} {k : Nat} {x z : α} (hz : l[k]? = some z) (h : decide (x ∈ l.take k) = false) : (false != decide (z = x)) = decide (x ∈ l.take (k + 1)) := by
  have h := of_decide_eq_false h
  rw [take_succ_at hz]
  simp [h, eq_comm]
theorem mem_succ_t {α : Type} [DecidableEq α] {l : List α} {k : Nat} {x z : α} (hz : l[k]? = some z) (h : decide (x ∈ l.take k) = true) : true = decide (x ∈ l.take (k + 1)) := by
  have h := of_decide_eq_true h
  rw [take_succ_at hz]
  simp [h]

def mc7 : MC := (.seq (.reg [⟨(some 3), (.box 58 3 (.t 1)), none, []⟩, ⟨(some 4), (.mv (.c (.bool false))), none, []⟩] false) (.seq (.reg [⟨(some 24), (.call 9 []), none, []⟩, ⟨(some 5), (.mv (.t 24)), none, [0, 0, 0]⟩] false) (.seq (.reg [⟨(some 25), (.mv (.t 0)), none, []⟩, ⟨(some 26), (.call 10 [(.t 25)]), none, [0]⟩, ⟨(some 6), (.alloc 28 11 [(.int .i64 0), (.int .i64 0), (.int .i64 0), (.int .i64 0), (.int .i64 0), (.int .i64 0), (.int .i64 0), (.int .i64 0), (.int .i64 0), (.int .i64 0), (.int .i64 0)]), none, []⟩, ⟨none, (.st 11 (.t 6) (.t 26)), none, [2, 1, 1, 0, 1, 2]⟩] false) (.seq (.reg [⟨(some 28), (.ld true 11 (.t 6)), none, []⟩, ⟨(some 29), (.call 25 [(.t 28)]), none, [0]⟩, ⟨(some 27), (.mv (.t 29)), none, [1]⟩, ⟨(some 30), (.ext (.t 27) 0), none, [2]⟩, ⟨(some 31), (.ext (.t 27) 1), none, [2]⟩, ⟨(some 7), (.mv (.t 30)), none, [3, 1, 0, 1, 2, 3]⟩, ⟨(some 8), (.mv (.t 31)), none, [4, 5, 0, 1, 2, 3, 4, 5]⟩] false) (.seq (.seq (.reg [⟨(some 32), (.mv (.t 8)), none, []⟩, ⟨(some 33), (.un .not (.t 32)), none, [0]⟩] false) (.cond (.t 33) (.seq (.reg [⟨(some 4), (.mv (.c (.bool false))), none, []⟩] false) .ret) .skip)) (.seq (.reg [⟨(some 34), (.fa 4 (.t 6)), none, []⟩, ⟨(some 35), (.ld true 3 (.t 34)), none, [0]⟩, ⟨(some 36), (.fa 1 (.t 6)), none, []⟩, ⟨(some 37), (.ld true 3 (.t 36)), none, [2]⟩, ⟨(some 38), (.call 27 [(.t 35), (.t 37)]), none, [1, 3]⟩, ⟨(some 9), (.alloc 26 3 [(.int .i64 0), (.int .i64 0), (.int .i64 0)]), none, []⟩, ⟨none, (.st 3 (.t 9) (.t 38)), none, [5, 4, 4, 0, 1, 2, 3, 4, 5]⟩] false) (.seq (.reg [⟨(some 39), (.ixarr 3 1 (.t 3) (.c (.int .i64 0))), none, []⟩, ⟨(some 40), (.ld false 1 (.t 39)), none, [0]⟩, ⟨(some 41), (.bin .rem (.t 40) (.c (.int .u8 41))), none, [1]⟩, ⟨(some 42), (.cvt .i64 (.t 41)), none, [2]⟩, ⟨(some 43), (.bin .sub (.t 42) (.c (.int .i64 20))), none, [3]⟩, ⟨(some 44), (.ixarr 3 1 (.t 3) (.c (.int .i64 1))), none, []⟩, ⟨(some 45), (.ld false 1 (.t 44)), none, [5]⟩, ⟨(some 46), (.bin .rem (.t 45) (.c (.int .u8 41))), none, [6]⟩, ⟨(some 47), (.cvt .i64 (.t 46)), none, [7]⟩, ⟨(some 48), (.bin .sub (.t 47) (.c (.int .i64 20))), none, [8]⟩, ⟨(some 49), (.ixarr 3 1 (.t 3) (.c (.int .i64 2))), none, []⟩, ⟨(some 50), (.ld false 1 (.t 49)), none, [10]⟩, ⟨(some 51), (.bin .rem (.t 50) (.c (.int .u8 41))), none, [11]⟩, ⟨(some 52), (.cvt .i64 (.t 51)), none, [12]⟩, ⟨(some 53), (.bin .sub (.t 52) (.c (.int .i64 20))), none, [13]⟩, ⟨(some 54), (.build [(.int .i64 0), (.int .i64 0), (.int .i64 0)] [(0, (1, (.t 43))), (1, (1, (.t 48))), (2, (1, (.t 53)))]), none, [4, 9, 14]⟩, ⟨(some 10), (.alloc 26 3 [(.int .i64 0), (.int .i64 0), (.int .i64 0)]), none, []⟩, ⟨none, (.st 3 (.t 10) (.t 54)), none, [16, 15, 0, 1, 2, 3, 4, 5, 6, 7, 8, 9, 10, 11, 12, 13, 14, 15, 16]⟩] false) (.seq (.reg [⟨(some 56), (.ld true 3 (.t 9)), none, []⟩, ⟨(some 57), (.call 32 [(.t 56)]), none, [0]⟩, ⟨(some 55), (.mv (.t 57)), none, [1]⟩, ⟨(some 58), (.ext (.t 55) 0), none, [2]⟩, ⟨(some 59), (.ext (.t 55) 1), none, [2]⟩, ⟨(some 11), (.alloc 26 3 [(.int .i64 0), (.int .i64 0), (.int .i64 0)]), none, []⟩, ⟨none, (.st 3 (.t 11) (.t 58)), none, [5, 3, 1, 0, 1, 2, 3, 5]⟩, ⟨(some 12), (.mv (.t 59)), none, [4, 6, 0, 1, 2, 3, 4, 5, 6]⟩] false) (.seq (.seq (.reg [⟨(some 60), (.ld true 3 (.t 10)), none, []⟩, ⟨(some 61), (.fa 0 (.t 11)), none, []⟩, ⟨(some 62), (.ld false 1 (.t 61)), none, [1]⟩, ⟨(some 63), (.fa 0 (.t 10)), none, []⟩, ⟨(some 64), (.ld false 1 (.t 63)), none, [3]⟩, ⟨(some 65), (.bin .rem (.t 64) (.c (.int .i64 5))), none, [4]⟩, ⟨(some 66), (.bin .mul (.t 62) (.t 65)), none, [2, 5]⟩, ⟨(some 67), (.fa 1 (.t 11)), none, []⟩, ⟨(some 68), (.ld false 1 (.t 67)), none, [7]⟩, ⟨(some 69), (.fa 0 (.t 10)), none, []⟩, ⟨(some 70), (.ld false 1 (.t 69)), none, [9]⟩, ⟨(some 71), (.bin .rem (.t 70) (.c (.int .i64 5))), none, [10]⟩, ⟨(some 72), (.bin .mul (.t 68) (.t 71)), none, [8, 11]⟩, ⟨(some 73), (.fa 2 (.t 11)), none, []⟩, ⟨(some 74), (.ld false 1 (.t 73)), none, [13]⟩, ⟨(some 75), (.fa 0 (.t 10)), none, []⟩, ⟨(some 76), (.ld false 1 (.t 75)), none, [15]⟩, ⟨(some 77), (.bin .rem (.t 76) (.c (.int .i64 5))), none, [16]⟩, ⟨(some 78), (.bin .mul (.t 74) (.t 77)), none, [14, 17]⟩, ⟨(some 79), (.build [(.int .i64 0), (.int .i64 0), (.int .i64 0)] [(0, (1, (.t 66))), (1, (1, (.t 72))), (2, (1, (.t 78)))]), none, [6, 12, 18]⟩, ⟨(some 80), (.bslice 26 3 [(.int .i64 0), (.int .i64 0), (.int .i64 0)] 2 [(0, (.t 60)), (1, (.t 79))]), none, [0, 19]⟩, ⟨(some 81), (.len (.t 80)), none, [20]⟩, ⟨(some 82), (.mv (.c (.int .i64 0))), none, []⟩] false) (.block 0 (.loop (.seq (.reg [⟨(some 83), (.bin .lss (.t 82) (.t 81)), none, []⟩] false) (.seq (.cond (.t 83) .skip (.exit 0)) (.seq (.block 1 (.seq (.reg [⟨(some 84), (.ixsl 3 (.t 80) (.t 82)), none, []⟩, ⟨(some 85), (.ld true 3 (.t 84)), none, [0]⟩, ⟨(some 14), (.alloc 26 3 [(.int .i64 0), (.int .i64 0), (.int .i64 0)]), none, []⟩, ⟨none, (.st 3 (.t 14) (.t 85)), none, [2, 1, 0, 1, 2]⟩] false) (.seq (.reg [⟨(some 86), (.fa 1 (.t 6)), none, []⟩, ⟨(some 87), (.ld true 3 (.t 86)), none, [0]⟩, ⟨(some 88), (.ld true 3 (.t 14)), none, []⟩, ⟨(some 89), (.call 28 [(.t 87), (.t 88)]), none, [1, 2]⟩, ⟨(some 15), (.alloc 26 3 [(.int .i64 0), (.int .i64 0), (.int .i64 0)]), none, []⟩, ⟨none, (.st 3 (.t 15) (.t 89)), none, [4, 3, 3, 0, 1, 2, 3, 4]⟩] false) (.seq (.reg [⟨(some 90), (.ld true 3 (.t 14)), none, []⟩, ⟨(some 91), (.ld true 3 (.t 9)), none, []⟩, ⟨(some 92), (.call 31 [(.t 90), (.t 91)]), none, [0, 1]⟩, ⟨(some 93), (.build [(.int .i64 0), (.int .i64 0), (.int .i64 0)] []), none, []⟩, ⟨(some 94), (.aeq false 3 (.t 92) (.t 93)), none, [2, 3]⟩, ⟨(some 95), (.mv (.t 94)), none, [4, 2]⟩, ⟨(some 96), (.ld true 3 (.t 14)), (some (95, true)), [5]⟩, ⟨(some 97), (.ld true 3 (.t 9)), (some (95, true)), [5]⟩, ⟨(some 98), (.call 30 [(.t 96), (.t 97)]), (some (95, true)), [6, 7, 5, 5]⟩, ⟨(some 99), (.bin .geq (.t 98) (.c (.int .i64 0))), (some (95, true)), [8, 5]⟩, ⟨(some 100), (.pick (.t 95) (.t 99) (.c (.bool false))), none, [5, 9]⟩, ⟨(some 101), (.mv (.t 100)), none, [10, 8]⟩, ⟨(some 102), (.ld true 3 (.t 14)), (some (101, true)), [11]⟩, ⟨(some 103), (.ld true 3 (.t 9)), (some (101, true)), [11]⟩, ⟨(some 104), (.call 30 [(.t 102), (.t 103)]), (some (101, true)), [12, 13, 11, 11]⟩, ⟨(some 105), (.ld true 3 (.t 9)), (some (101, true)), [11]⟩, ⟨(some 106), (.ld true 3 (.t 9)), (some (101, true)), [11]⟩, ⟨(some 107), (.call 30 [(.t 105), (.t 106)]), (some (101, true)), [15, 16, 14, 11]⟩, ⟨(some 108), (.bin .leq (.t 104) (.t 107)), (some (101, true)), [14, 17, 11]⟩, ⟨(some 109), (.pick (.t 101) (.t 108) (.c (.bool false))), none, [11, 18]⟩, ⟨(some 16), (.mv (.t 109)), none, [19, 17, 0, 1, 2, 3, 4, 5, 6, 7, 8, 9, 10, 11, 12, 13, 14, 15, 16, 17, 18, 19]⟩] true) (.seq (.seq (.reg [⟨(some 110), (.fa 0 (.t 6)), none, []⟩, ⟨(some 111), (.ld false 1 (.t 110)), none, [0]⟩, ⟨(some 112), (.bin .eql (.t 111) (.c (.int .i64 3))), none, [1]⟩] false) (.cond (.t 112) (.seq (.reg [⟨(some 113), (.fa 1 (.t 6)), none, []⟩, ⟨(some 114), (.ld true 3 (.t 113)), none, [0]⟩, ⟨(some 115), (.fa 4 (.t 6)), none, []⟩, ⟨(some 116), (.ld true 3 (.t 115)), none, [2]⟩, ⟨(some 117), (.call 28 [(.t 114), (.t 116)]), none, [1, 3]⟩, ⟨(some 118), (.fa 7 (.t 6)), none, []⟩, ⟨(some 119), (.ld true 3 (.t 118)), none, [5]⟩, ⟨(some 120), (.call 27 [(.t 117), (.t 119)]), none, [4, 6, 4]⟩, ⟨(some 17), (.alloc 26 3 [(.int .i64 0), (.int .i64 0), (.int .i64 0)]), none, []⟩, ⟨none, (.st 3 (.t 17) (.t 120)), none, [8, 7, 7, 0, 1, 2, 3, 4, 5, 6, 7, 8]⟩] true) (.seq (.reg [⟨(some 121), (.fa 1 (.t 6)), none, []⟩, ⟨(some 122), (.ld true 3 (.t 121)), none, [0]⟩, ⟨(some 123), (.ld true 3 (.t 17)), none, []⟩, ⟨(some 124), (.call 27 [(.t 122), (.t 123)]), none, [1, 2]⟩, ⟨(some 125), (.fa 4 (.t 6)), none, []⟩, ⟨(some 126), (.ld true 3 (.t 125)), none, [4]⟩, ⟨(some 127), (.ld true 3 (.t 17)), none, []⟩, ⟨(some 128), (.call 27 [(.t 126), (.t 127)]), none, [5, 6, 3]⟩, ⟨(some 129), (.ld true 3 (.t 15)), none, []⟩, ⟨(some 130), (.ld true 3 (.t 17)), none, []⟩, ⟨(some 131), (.call 27 [(.t 129), (.t 130)]), none, [8, 9, 7]⟩, ⟨(some 18), (.alloc 26 3 [(.int .i64 0), (.int .i64 0), (.int .i64 0)]), none, []⟩, ⟨(some 19), (.alloc 26 3 [(.int .i64 0), (.int .i64 0), (.int .i64 0)]), none, []⟩, ⟨(some 20), (.alloc 26 3 [(.int .i64 0), (.int .i64 0), (.int .i64 0)]), none, []⟩, ⟨none, (.st 3 (.t 18) (.t 124)), none, [11, 3, 10, 0, 1, 2, 3, 11, 12, 13]⟩, ⟨none, (.st 3 (.t 19) (.t 128)), none, [12, 7, 14, 0, 1, 2, 3, 4, 5, 6, 7, 11, 12, 13, 14]⟩, ⟨none, (.st 3 (.t 20) (.t 131)), none, [13, 10, 15, 0, 1, 2, 3, 4, 5, 6, 7, 8, 9, 10, 11, 12, 13, 14, 15]⟩] true) (.reg [⟨(some 132), (.ld true 3 (.t 20)), none, []⟩, ⟨(some 133), (.ld true 3 (.t 20)), none, []⟩, ⟨(some 134), (.call 30 [(.t 132), (.t 133)]), none, [0, 1]⟩, ⟨(some 135), (.ld true 3 (.t 18)), none, []⟩, ⟨(some 136), (.ld true 3 (.t 18)), none, []⟩, ⟨(some 137), (.call 30 [(.t 135), (.t 136)]), none, [3, 4, 2]⟩, ⟨(some 138), (.bin .eql (.t 134) (.t 137)), none, [2, 5]⟩, ⟨(some 139), (.mv (.t 138)), none, [6, 5]⟩, ⟨(some 140), (.ld true 3 (.t 18)), (some (139, true)), [7]⟩, ⟨(some 141), (.ld true 3 (.t 19)), (some (139, true)), [7]⟩, ⟨(some 142), (.call 31 [(.t 140), (.t 141)]), (some (139, true)), [8, 9, 7, 7]⟩, ⟨(some 143), (.ld true 3 (.t 20)), (some (139, true)), [7]⟩, ⟨(some 144), (.call 30 [(.t 142), (.t 143)]), (some (139, true)), [10, 11, 10, 7]⟩, ⟨(some 145), (.bin .eql (.t 144) (.c (.int .i64 0))), (some (139, true)), [12, 7]⟩, ⟨(some 146), (.pick (.t 139) (.t 145) (.c (.bool false))), none, [7, 13]⟩, ⟨(some 147), (.mv (.t 146)), none, [14, 12]⟩, ⟨(some 148), (.ld true 3 (.t 20)), (some (147, true)), [15]⟩, ⟨(some 149), (.ld true 3 (.t 18)), (some (147, true)), [15]⟩, ⟨(some 150), (.call 30 [(.t 148), (.t 149)]), (some (147, true)), [16, 17, 15, 15]⟩, ⟨(some 151), (.bin .geq (.t 150) (.c (.int .i64 0))), (some (147, true)), [18, 15]⟩, ⟨(some 152), (.pick (.t 147) (.t 151) (.c (.bool false))), none, [15, 19]⟩, ⟨(some 153), (.mv (.t 152)), none, [20, 18]⟩, ⟨(some 154), (.ld true 3 (.t 20)), (some (153, true)), [21]⟩, ⟨(some 155), (.ld true 3 (.t 19)), (some (153, true)), [21]⟩, ⟨(some 156), (.call 30 [(.t 154), (.t 155)]), (some (153, true)), [22, 23, 21, 21]⟩, ⟨(some 157), (.bin .geq (.t 156) (.c (.int .i64 0))), (some (153, true)), [24, 21]⟩, ⟨(some 158), (.pick (.t 153) (.t 157) (.c (.bool false))), none, [21, 25]⟩, ⟨(some 16), (.mv (.t 158)), none, [26, 24, 0, 1, 2, 3, 4, 5, 6, 7, 8, 9, 10, 11, 12, 13, 14, 15, 16, 17, 18, 19, 20, 21, 22, 23, 24, 25, 26]⟩] true))) .skip)) (.seq (.reg [⟨(some 21), (.mv (.c (.bool false))), none, []⟩] false) (.seq (.seq (.reg [⟨(some 159), (.mv (.t 7)), none, []⟩, ⟨(some 160), (.len (.t 159)), none, [0]⟩, ⟨(some 161), (.mv (.c (.int .i64 0))), none, []⟩] false) (.block 2 (.loop (.seq (.reg [⟨(some 162), (.bin .lss (.t 161) (.t 160)), none, []⟩] false) (.seq (.cond (.t 162) .skip (.exit 2)) (.seq (.block 3 (.seq (.reg [⟨(some 163), (.ixsl 3 (.t 159) (.t 161)), none, []⟩, ⟨(some 164), (.ld true 3 (.t 163)), none, [0]⟩, ⟨(some 23), (.alloc 26 3 [(.int .i64 0), (.int .i64 0), (.int .i64 0)]), none, []⟩, ⟨none, (.st 3 (.t 23) (.t 164)), none, [2, 1, 0, 1, 2]⟩] false) (.reg [⟨(some 165), (.mv (.t 21)), none, []⟩, ⟨(some 166), (.mv (.t 165)), none, [0]⟩, ⟨(some 167), (.ld true 3 (.t 23)), (some (166, false)), [1]⟩, ⟨(some 168), (.ld true 3 (.t 15)), (some (166, false)), [1]⟩, ⟨(some 169), (.aeq false 3 (.t 167) (.t 168)), (some (166, false)), [2, 3, 1]⟩, ⟨(some 170), (.pick (.t 166) (.c (.bool true)) (.t 169)), none, [1, 4]⟩, ⟨(some 21), (.mv (.t 170)), none, [5, 1, 0, 1, 2, 3, 4, 5]⟩] false))) (.reg [⟨(some 171), (.bin .add (.t 161) (.c (.int .i64 1))), none, []⟩, ⟨(some 161), (.mv (.t 171)), none, [0]⟩] false))))))) (.seq (.reg [⟨(some 172), (.mv (.t 16)), none, []⟩, ⟨(some 173), (.mv (.t 21)), none, []⟩, ⟨(some 174), (.beq true (.t 172) (.t 173)), none, [0, 1]⟩] false) (.cond (.t 174) (.seq (.reg [⟨(some 4), (.mv (.c (.bool false))), none, []⟩] false) .ret) .skip))))))))) (.reg [⟨(some 175), (.bin .add (.t 82) (.c (.int .i64 1))), none, []⟩, ⟨(some 82), (.mv (.t 175)), none, [0]⟩] false))))))) (.seq (.reg [⟨(some 176), (.mv (.t 5)), none, []⟩, ⟨(some 4), (.mv (.t 176)), none, [0, 0]⟩] false) .ret))))))))))
theorem mcOk7 : (match Try.f7.body with | some c => compC Try.prog 177 c | none => none) = some mc7 := by kernel_rfl

end Go.Proofs.Yteommcdafifckaa

/-! Walks: M11. -/
namespace Go.Proofs.Yteommcdafifckaa
open Go.RowKit

theorem rs_aeqv_t {P : Program} {N : Nat} {F : Fr} {H : Hp} {ml : List MOper} {K : List Fp → Fr → Hp → Prop} {d : Nat} {g : Option (Nat × Bool)} {pre : List Nat} {x y : Arg} {u v : V3} (e : u = v) (hg : gOK F g = true) (hx : aarg F x = some (aV u)) (hy : aarg F y = some (aV v))
    (h : RS P N ml ((d, .bool true) :: F) H (fun fps => K (([], []) :: fps))) : RS P N (⟨some d, .aeq false 3 x y, g, pre⟩ :: ml) F H K := by
  subst e; exact rs_aeqv hg hx hy (by simpa using h)
theorem out_le3 (m : Mv) (i j : Int) : (outS m i j).length ≤ 1000 := by
  unfold outS
  repeat' split
  all_goals simp
theorem kn_le49 (m : Mv) (i j : Int) : (knS m i j).length ≤ 49 := by
  have := btw_le m i j
  unfold knS
  repeat' split
  all_goals simp
  all_goals omega
theorem btw_def {m : Mv} {i j : Int} (h : btwB m i j = true) : ((((pathS m).map cV).drop i.toNat).take ((j + 1).toNat - i.toNat)) = (btwS m i j).map cV := by
  unfold btwS
  rw [if_pos h, List.map_take, List.map_drop]

def mc33 : MC := (.seq (.reg [⟨(some 3), (.box 26 3 (.t 1)), none, []⟩, ⟨(some 4), (.mv (.c (.int .i64 0))), none, []⟩, ⟨(some 5), (.mv (.c (.bool false))), none, [1]⟩] false) (.seq (.reg [⟨(some 6), (.mv (.c (.int .i64 0))), none, []⟩] false) (.seq (.seq (.reg [⟨(some 10), (.mv (.t 0)), none, []⟩, ⟨(some 11), (.len (.t 10)), none, [0]⟩, ⟨(some 12), (.mv (.c (.int .i64 0))), none, []⟩] false) (.block 0 (.loop (.seq (.reg [⟨(some 13), (.bin .lss (.t 12) (.t 11)), none, []⟩] false) (.seq (.cond (.t 13) .skip (.exit 0)) (.seq (.block 1 (.seq (.reg [⟨(some 14), (.mv (.t 12)), none, []⟩, ⟨(some 15), (.ixsl 3 (.t 10) (.t 12)), none, []⟩, ⟨(some 16), (.ld true 3 (.t 15)), none, [1]⟩, ⟨(some 8), (.alloc 26 3 [(.int .i64 0), (.int .i64 0), (.int .i64 0)]), none, []⟩, ⟨(some 7), (.mv (.t 14)), none, [0, 0, 1, 2, 3]⟩, ⟨none, (.st 3 (.t 8) (.t 16)), none, [3, 2, 4, 0, 1, 2, 3, 4]⟩] false) (.seq (.reg [⟨(some 17), (.ld true 3 (.t 8)), none, []⟩, ⟨(some 18), (.ld true 3 (.t 3)), none, []⟩, ⟨(some 19), (.call 30 [(.t 17), (.t 18)]), none, [0, 1]⟩, ⟨(some 9), (.mv (.t 19)), none, [2, 2, 0, 1, 2]⟩] false) (.seq (.reg [⟨(some 20), (.mv (.t 7)), none, []⟩, ⟨(some 21), (.bin .eql (.t 20) (.c (.int .i64 0))), none, [0]⟩, ⟨(some 22), (.mv (.t 21)), none, [1]⟩, ⟨(some 23), (.mv (.t 9)), (some (22, false)), [2]⟩, ⟨(some 24), (.mv (.t 6)), (some (22, false)), [2]⟩, ⟨(some 25), (.bin .gtr (.t 23) (.t 24)), (some (22, false)), [3, 4, 2]⟩, ⟨(some 26), (.pick (.t 22) (.c (.bool true)) (.t 25)), none, [2, 5]⟩] false) (.cond (.t 26) (.reg [⟨(some 27), (.mv (.t 9)), none, []⟩, ⟨(some 6), (.mv (.t 27)), none, [0, 0]⟩] false) .skip))))) (.reg [⟨(some 28), (.bin .add (.t 12) (.c (.int .i64 1))), none, []⟩, ⟨(some 12), (.mv (.t 28)), none, [0]⟩] false))))))) (.seq (.reg [⟨(some 29), (.mv (.t 6)), none, []⟩, ⟨(some 30), (.mv (.t 0)), none, []⟩, ⟨(some 31), (.len (.t 30)), none, [1]⟩, ⟨(some 32), (.bin .gtr (.t 31) (.c (.int .i64 0))), none, [2]⟩, ⟨(some 4), (.mv (.t 29)), none, [0, 0]⟩, ⟨(some 5), (.mv (.t 32)), none, [3, 4, 0, 1, 2, 3, 4]⟩] false) .ret))))
theorem mcOk33 : (match Try.f33.body with | some c => compC Try.prog 33 c | none => none) = some mc33 := by kernel_rfl

theorem fc33 (l : List V3) (n : V3) (hl : ∀ x ∈ l, Bd 10000 x) (hn : Bd 10000 n) (hll : l.length ≤ 1000) : FC Try.prog 33 [.rs 3 (l.map cV), aV n] [] (.tup [iv (supS l n), .bool (decide ((l.length : Int) > 0))]) [] false := by
  refine fc_run (nt := 33) Try.func33 rfl rfl mcOk33 (Nat.le_of_ble_eq_true rfl) ?_
  delta mc33
  refine aw_seq ?_
  refine aw_reg ?_
  refine rs_box rfl rfl rfl rfl rfl rfl ?_
  refine rs_mv rfl rfl ?_
  refine rs_mv rfl rfl ?_
  refine rs_nil fun _ => ?_
  refine th_n ?_
  refine aw_seq ?_
  refine aw_reg ?_
  refine rs_mv rfl rfl ?_
  refine rs_nil fun _ => ?_
  refine th_n ?_
  refine aw_seq ?_
  refine aw_seq ?_
  refine aw_reg ?_
  refine rs_mv rfl rfl ?_
  first | refine rs_len_m rfl rfl ?_ | refine rs_len_s rfl rfl ?_ | refine rs_len_n rfl rfl ?_ | refine rs_len_r rfl rfl rfl ?_
  refine rs_mv rfl rfl ?_
  refine rs_nil fun _ => ?_
  refine th_n ?_
  refine aw_block ?_
  refine aw_fam (α := Nat) (fun k => l.length - k) (fun k => [(0, .rs 3 (l.map cV)), (10, .rs 3 (l.map cV)), (11, iv (l.length : Int)), (12, iv (((k) : Nat) : Int)), (3, .ptr 3 0 0), (6, iv (supK l n (k)))]) (fun k => [(3, .cells 26 3 [cV n] true)]) (fun k => k ≤ l.length) 0 (by omega)
    (weak_to (.cons rfl (rc_same rfl (.inl rfl)) (.cons rfl (rc_same rfl (.inl rfl)) (.cons rfl (rc_same rfl (.inl rfl)) (.cons rfl (rc_same rfl (.inl rfl)) (.cons rfl (rc_same rfl (.inl rfl)) (.cons rfl (rc_same rfl (.inl rfl)) (.nil))))))) (.keep (rfl) rfl (.nil)) (fun i h => by cases h)) ?_
  intro k hk
  refine aw_seq ?_
  refine aw_reg ?_
  refine rs_lss rfl rfl rfl ?_
  refine rs_nil fun _ => ?_
  refine th_n ?_
  refine aw_seq ?_
  refine aw_cond rfl (fun h13 => ?_) (fun h13 => ?_)
  · first | replace h13 := of_decide_eq_true h13 | skip
    refine aw_skip ?_
    refine th_n ?_
    refine aw_seq ?_
    refine aw_block ?_
    refine aw_seq ?_
    refine aw_reg ?_
    refine rs_mv rfl rfl ?_
    obtain ⟨x, hx, hxm⟩ := at_some (L := l) (k := k) (by omega)
    refine rs_ix_g rfl rfl rfl (by omega) hx ?_
    refine rs_ld_ra rfl rfl (Nat.le_of_ble_eq_true rfl) rfl ?_
    refine rs_alloc rfl rfl rfl ?_
    refine rs_mv rfl rfl ?_
    refine rs_st rfl rfl rfl rfl rfl rfl rfl (Nat.le_of_ble_eq_true rfl) rfl rfl ?_
    refine rs_nil fun _ => ?_
    refine th_n ?_
    refine aw_seq ?_
    refine aw_reg ?_
    first | refine rs_ld_pa rfl rfl rfl rfl (Nat.le_of_ble_eq_true rfl) rfl ?_ | refine rs_ld_ra rfl rfl (Nat.le_of_ble_eq_true rfl) rfl ?_ | refine rs_ld_ma rfl rfl rfl (by omega) (Nat.le_of_ble_eq_true rfl) rfl ?_
    first | refine rs_ld_pa rfl rfl rfl rfl (Nat.le_of_ble_eq_true rfl) rfl ?_ | refine rs_ld_ra rfl rfl (Nat.le_of_ble_eq_true rfl) rfl ?_ | refine rs_ld_ma rfl rfl rfl (by omega) (Nat.le_of_ble_eq_true rfl) rfl ?_
    refine rs_calln [] rfl rfl (fc30s (hl x hxm).big hn.big) (.cons (hv_same rfl) (.cons (hv_same rfl) (.nil))) rfl ?_
    refine rs_mv rfl rfl ?_
    refine rs_nil fun _ => ?_
    refine th_n ?_
    refine aw_seq ?_
    refine aw_reg ?_
    refine rs_mv rfl rfl ?_
    refine rs_cmp rfl rfl rfl rfl (fun h21 => ?_) (fun h21 => ?_)
    · skip
      refine rs_mv rfl rfl ?_
      refine rs_skip rfl ?_
      refine rs_skip rfl ?_
      refine rs_skip rfl ?_
      refine rs_pick rfl rfl rfl ?_
      refine rs_nil fun _ => ?_
      refine th_n ?_
      refine aw_cond rfl (fun _ => ?_) (fun h => by cases h)
      refine aw_reg ?_
      refine rs_mv rfl rfl ?_
      refine rs_mv rfl rfl ?_
      refine rs_nil fun _ => ?_
      refine in_n ?_
      refine th_n ?_
      refine aw_reg ?_
      first | refine rs_add rfl rfl rfl (by omega) ?_ | refine rs_addw rfl rfl rfl rfl ?_
      refine rs_mv rfl rfl ?_
      refine rs_nil fun _ => ?_
      refine th_n ?_
      first
        | exact ⟨k + 1, by omega, by omega, weak_to (.cons rfl (rc_same rfl (.inl rfl)) (.cons rfl (rc_same rfl (.inl rfl)) (.cons rfl (rc_same rfl (.inl rfl)) (.cons rfl (rc_same rfl (.inl rfl)) (.cons rfl (rc_same rfl (.inl rfl)) (.cons rfl (rc_int (supK_t hx (by omega)).symm) (.nil))))))) (.keep (rfl) rfl (.nil)) (fun i h => by cases h)⟩
        | exact ⟨k + 1, by omega, by omega, weak_to (.cons rfl (rc_same rfl (.inl rfl)) (.cons rfl (rc_same rfl (.inl rfl)) (.cons rfl (rc_same rfl (.inl rfl)) (.cons rfl (rc_same rfl (.inl rfl)) (.cons rfl (rc_same rfl (.inl rfl)) (.cons rfl (rc_int (supK_f hx (by omega)).symm) (.nil))))))) (.keep (rfl) rfl (.nil)) (fun i h => by cases h)⟩
    · skip
      refine rs_mv rfl rfl ?_
      refine rs_mv rfl rfl ?_
      refine rs_mv rfl rfl ?_
      refine rs_cmp rfl rfl rfl rfl (fun h25 => ?_) (fun h25 => ?_)
      · skip
        refine rs_pick rfl rfl rfl ?_
        refine rs_nil fun _ => ?_
        refine th_n ?_
        refine aw_cond rfl (fun _ => ?_) (fun h => by cases h)
        refine aw_reg ?_
        refine rs_mv rfl rfl ?_
        refine rs_mv rfl rfl ?_
        refine rs_nil fun _ => ?_
        refine in_n ?_
        refine th_n ?_
        refine aw_reg ?_
        first | refine rs_add rfl rfl rfl (by omega) ?_ | refine rs_addw rfl rfl rfl rfl ?_
        refine rs_mv rfl rfl ?_
        refine rs_nil fun _ => ?_
        refine th_n ?_
        first
          | exact ⟨k + 1, by omega, by omega, weak_to (.cons rfl (rc_same rfl (.inl rfl)) (.cons rfl (rc_same rfl (.inl rfl)) (.cons rfl (rc_same rfl (.inl rfl)) (.cons rfl (rc_same rfl (.inl rfl)) (.cons rfl (rc_same rfl (.inl rfl)) (.cons rfl (rc_int (supK_t hx (by omega)).symm) (.nil))))))) (.keep (rfl) rfl (.nil)) (fun i h => by cases h)⟩
          | exact ⟨k + 1, by omega, by omega, weak_to (.cons rfl (rc_same rfl (.inl rfl)) (.cons rfl (rc_same rfl (.inl rfl)) (.cons rfl (rc_same rfl (.inl rfl)) (.cons rfl (rc_same rfl (.inl rfl)) (.cons rfl (rc_same rfl (.inl rfl)) (.cons rfl (rc_int (supK_f hx (by omega)).symm) (.nil))))))) (.keep (rfl) rfl (.nil)) (fun i h => by cases h)⟩
      · skip
        refine rs_pick rfl rfl rfl ?_
        refine rs_nil fun _ => ?_
        refine th_n ?_
        refine aw_cond rfl (fun h => by cases h) (fun _ => ?_)
        refine aw_skip ?_
        refine in_n ?_
        refine th_n ?_
        refine aw_reg ?_
        first | refine rs_add rfl rfl rfl (by omega) ?_ | refine rs_addw rfl rfl rfl rfl ?_
        refine rs_mv rfl rfl ?_
        refine rs_nil fun _ => ?_
        refine th_n ?_
        first
          | exact ⟨k + 1, by omega, by omega, weak_to (.cons rfl (rc_same rfl (.inl rfl)) (.cons rfl (rc_same rfl (.inl rfl)) (.cons rfl (rc_same rfl (.inl rfl)) (.cons rfl (rc_same rfl (.inl rfl)) (.cons rfl (rc_same rfl (.inl rfl)) (.cons rfl (rc_int (supK_t hx (by omega)).symm) (.nil))))))) (.keep (rfl) rfl (.nil)) (fun i h => by cases h)⟩
          | exact ⟨k + 1, by omega, by omega, weak_to (.cons rfl (rc_same rfl (.inl rfl)) (.cons rfl (rc_same rfl (.inl rfl)) (.cons rfl (rc_same rfl (.inl rfl)) (.cons rfl (rc_same rfl (.inl rfl)) (.cons rfl (rc_same rfl (.inl rfl)) (.cons rfl (rc_int (supK_f hx (by omega)).symm) (.nil))))))) (.keep (rfl) rfl (.nil)) (fun i h => by cases h)⟩
  · first | replace h13 := of_decide_eq_false h13 | skip
    refine aw_exit ?_
    refine th_e ?_
    refine th_e ?_
    refine in_hit ?_
    refine th_n ?_
    refine aw_seq ?_
    refine aw_reg ?_
    refine rs_mv rfl rfl ?_
    refine rs_mv rfl rfl ?_
    first | refine rs_len_m rfl rfl ?_ | refine rs_len_s rfl rfl ?_ | refine rs_len_n rfl rfl ?_ | refine rs_len_r rfl rfl rfl ?_
    refine rs_gtr rfl rfl rfl ?_
    refine rs_mv rfl rfl ?_
    refine rs_mv rfl rfl ?_
    refine rs_nil fun _ => ?_
    refine th_n ?_
    refine aw_ret ?_
    obtain rfl : k = l.length := by omega
    exact ret_pure rfl rfl rfl (.inr rfl)

def mc8 : MC := (.seq (.reg [⟨(some 4), (.box 60 2 (.t 1)), none, []⟩, ⟨(some 5), (.box 58 3 (.t 2)), none, []⟩, ⟨(some 6), (.mv (.c (.bool false))), none, []⟩] false) (.seq (.reg [⟨(some 29), (.call 9 []), none, []⟩, ⟨(some 7), (.mv (.t 29)), none, [0, 0, 0]⟩] false) (.seq (.reg [⟨(some 30), (.mv (.t 0)), none, []⟩, ⟨(some 31), (.call 10 [(.t 30)]), none, [0]⟩, ⟨(some 8), (.alloc 28 11 [(.int .i64 0), (.int .i64 0), (.int .i64 0), (.int .i64 0), (.int .i64 0), (.int .i64 0), (.int .i64 0), (.int .i64 0), (.int .i64 0), (.int .i64 0), (.int .i64 0)]), none, []⟩, ⟨none, (.st 11 (.t 8) (.t 31)), none, [2, 1, 1, 0, 1, 2]⟩] false) (.seq (.reg [⟨(some 33), (.ld true 11 (.t 8)), none, []⟩, ⟨(some 34), (.call 25 [(.t 33)]), none, [0]⟩, ⟨(some 32), (.mv (.t 34)), none, [1]⟩, ⟨(some 35), (.ext (.t 32) 0), none, [2]⟩, ⟨(some 36), (.ext (.t 32) 1), none, [2]⟩, ⟨(some 9), (.mv (.t 35)), none, [3, 1, 0, 1, 2, 3]⟩, ⟨(some 10), (.mv (.t 36)), none, [4, 5, 0, 1, 2, 3, 4, 5]⟩] false) (.seq (.seq (.reg [⟨(some 37), (.mv (.t 10)), none, []⟩, ⟨(some 38), (.un .not (.t 37)), none, [0]⟩] false) (.cond (.t 38) (.seq (.reg [⟨(some 6), (.mv (.c (.bool false))), none, []⟩] false) .ret) .skip)) (.seq (.reg [⟨(some 39), (.ixarr 2 1 (.t 4) (.c (.int .i64 0))), none, []⟩, ⟨(some 40), (.ld false 1 (.t 39)), none, [0]⟩, ⟨(some 41), (.cvt .i64 (.t 40)), none, [1]⟩, ⟨(some 42), (.mv (.t 9)), none, []⟩, ⟨(some 43), (.len (.t 42)), none, [3]⟩, ⟨(some 44), (.bin .rem (.t 41) (.t 43)), none, [2, 4]⟩, ⟨(some 45), (.ixarr 2 1 (.t 4) (.c (.int .i64 1))), none, []⟩, ⟨(some 46), (.ld false 1 (.t 45)), none, [6]⟩, ⟨(some 47), (.cvt .i64 (.t 46)), none, [7]⟩, ⟨(some 48), (.mv (.t 9)), none, []⟩, ⟨(some 49), (.len (.t 48)), none, [9]⟩, ⟨(some 50), (.bin .rem (.t 47) (.t 49)), none, [8, 10]⟩, ⟨(some 11), (.mv (.t 44)), none, [5, 0, 1, 2, 3, 4, 5]⟩, ⟨(some 12), (.mv (.t 50)), none, [11, 12, 0, 1, 2, 3, 4, 5, 6, 7, 8, 9, 10, 11, 12]⟩] true) (.seq (.reg [⟨(some 51), (.mv (.t 11)), none, []⟩, ⟨(some 52), (.mv (.t 12)), none, []⟩, ⟨(some 53), (.mn (.t 51) (.t 52)), none, [0, 1]⟩, ⟨(some 54), (.mv (.t 11)), none, []⟩, ⟨(some 55), (.mv (.t 12)), none, []⟩, ⟨(some 56), (.mx (.t 54) (.t 55)), none, [3, 4]⟩, ⟨(some 11), (.mv (.t 53)), none, [2, 0, 1, 2, 3]⟩, ⟨(some 12), (.mv (.t 56)), none, [5, 6, 0, 1, 2, 3, 4, 5, 6]⟩] false) (.seq (.reg [⟨(some 57), (.ixarr 3 1 (.t 5) (.c (.int .i64 0))), none, []⟩, ⟨(some 58), (.ld false 1 (.t 57)), none, [0]⟩, ⟨(some 59), (.bin .rem (.t 58) (.c (.int .u8 41))), none, [1]⟩, ⟨(some 60), (.cvt .i64 (.t 59)), none, [2]⟩, ⟨(some 61), (.bin .sub (.t 60) (.c (.int .i64 20))), none, [3]⟩, ⟨(some 62), (.ixarr 3 1 (.t 5) (.c (.int .i64 1))), none, []⟩, ⟨(some 63), (.ld false 1 (.t 62)), none, [5]⟩, ⟨(some 64), (.bin .rem (.t 63) (.c (.int .u8 41))), none, [6]⟩, ⟨(some 65), (.cvt .i64 (.t 64)), none, [7]⟩, ⟨(some 66), (.bin .sub (.t 65) (.c (.int .i64 20))), none, [8]⟩, ⟨(some 67), (.ixarr 3 1 (.t 5) (.c (.int .i64 2))), none, []⟩, ⟨(some 68), (.ld false 1 (.t 67)), none, [10]⟩, ⟨(some 69), (.bin .rem (.t 68) (.c (.int .u8 41))), none, [11]⟩, ⟨(some 70), (.cvt .i64 (.t 69)), none, [12]⟩, ⟨(some 71), (.bin .sub (.t 70) (.c (.int .i64 20))), none, [13]⟩, ⟨(some 72), (.build [(.int .i64 0), (.int .i64 0), (.int .i64 0)] [(0, (1, (.t 61))), (1, (1, (.t 66))), (2, (1, (.t 71)))]), none, [4, 9, 14]⟩, ⟨(some 13), (.alloc 26 3 [(.int .i64 0), (.int .i64 0), (.int .i64 0)]), none, []⟩, ⟨none, (.st 3 (.t 13) (.t 72)), none, [16, 15, 0, 1, 2, 3, 4, 5, 6, 7, 8, 9, 10, 11, 12, 13, 14, 15, 16]⟩] false) (.seq (.reg [⟨(some 74), (.ld true 11 (.t 8)), none, []⟩, ⟨(some 75), (.mv (.t 11)), none, []⟩, ⟨(some 76), (.mv (.t 12)), none, []⟩, ⟨(some 77), (.call 19 [(.t 74), (.t 75), (.t 76)]), none, [0, 1, 2]⟩, ⟨(some 73), (.mv (.t 77)), none, [3]⟩, ⟨(some 78), (.ext (.t 73) 0), none, [4]⟩, ⟨(some 79), (.ext (.t 73) 1), none, [4]⟩, ⟨(some 14), (.mv (.t 78)), none, [5, 3, 0, 1, 2, 3, 4, 5]⟩, ⟨(some 15), (.mv (.t 79)), none, [6, 7, 0, 1, 2, 3, 4, 5, 6, 7]⟩] false) (.seq (.reg [⟨(some 81), (.ld true 11 (.t 8)), none, []⟩, ⟨(some 82), (.mv (.t 11)), none, []⟩, ⟨(some 83), (.mv (.t 12)), none, []⟩, ⟨(some 84), (.call 21 [(.t 81), (.t 82), (.t 83)]), none, [0, 1, 2]⟩, ⟨(some 80), (.mv (.t 84)), none, [3]⟩, ⟨(some 85), (.ext (.t 80) 0), none, [4]⟩, ⟨(some 86), (.ext (.t 80) 1), none, [4]⟩, ⟨(some 16), (.mv (.t 85)), none, [5, 3, 0, 1, 2, 3, 4, 5]⟩, ⟨(some 17), (.mv (.t 86)), none, [6, 7, 0, 1, 2, 3, 4, 5, 6, 7]⟩] false) (.seq (.reg [⟨(some 88), (.mv (.t 14)), none, []⟩, ⟨(some 89), (.ld true 3 (.t 13)), none, []⟩, ⟨(some 90), (.call 33 [(.t 88), (.t 89)]), none, [0, 1]⟩, ⟨(some 87), (.mv (.t 90)), none, [2]⟩, ⟨(some 91), (.ext (.t 87) 0), none, [3]⟩, ⟨(some 92), (.ext (.t 87) 1), none, [3]⟩, ⟨(some 18), (.mv (.t 91)), none, [4, 2, 0, 1, 2, 3, 4]⟩, ⟨(some 19), (.mv (.t 92)), none, [5, 6, 0, 1, 2, 3, 4, 5, 6]⟩] false) (.seq (.reg [⟨(some 94), (.mv (.t 9)), none, []⟩, ⟨(some 95), (.mv (.t 11)), none, []⟩, ⟨(some 96), (.mv (.t 12)), none, []⟩, ⟨(some 97), (.bin .add (.t 96) (.c (.int .i64 1))), none, [2]⟩, ⟨(some 98), (.slc 3 (.t 94) (some (.t 95)) (some (.t 97))), none, [0, 1, 3]⟩, ⟨(some 99), (.ld true 3 (.t 13)), none, []⟩, ⟨(some 100), (.call 33 [(.t 98), (.t 99)]), none, [4, 5]⟩, ⟨(some 93), (.mv (.t 100)), none, [6]⟩, ⟨(some 101), (.ext (.t 93) 0), none, [7]⟩, ⟨(some 102), (.ext (.t 93) 1), none, [7]⟩, ⟨(some 20), (.mv (.t 101)), none, [8, 6, 0, 1, 2, 3, 4, 5, 6, 7, 8]⟩, ⟨(some 21), (.mv (.t 102)), none, [9, 10, 0, 1, 2, 3, 4, 5, 6, 7, 8, 9, 10]⟩] true) (.seq (.seq (.reg [⟨(some 103), (.mv (.t 15)), none, []⟩, ⟨(some 104), (.un .not (.t 103)), none, [0]⟩, ⟨(some 105), (.mv (.t 104)), none, [1]⟩, ⟨(some 106), (.mv (.t 17)), (some (105, false)), [2]⟩, ⟨(some 107), (.un .not (.t 106)), (some (105, false)), [3, 2]⟩, ⟨(some 108), (.pick (.t 105) (.c (.bool true)) (.t 107)), none, [2, 4]⟩, ⟨(some 109), (.mv (.t 108)), none, [5, 2]⟩, ⟨(some 110), (.mv (.t 19)), (some (109, false)), [6]⟩, ⟨(some 111), (.un .not (.t 110)), (some (109, false)), [7, 6]⟩, ⟨(some 112), (.pick (.t 109) (.c (.bool true)) (.t 111)), none, [6, 8]⟩, ⟨(some 113), (.mv (.t 112)), none, [9, 6]⟩, ⟨(some 114), (.mv (.t 21)), (some (113, false)), [10]⟩, ⟨(some 115), (.un .not (.t 114)), (some (113, false)), [11, 10]⟩, ⟨(some 116), (.pick (.t 113) (.c (.bool true)) (.t 115)), none, [10, 12]⟩, ⟨(some 117), (.mv (.t 116)), none, [13, 10]⟩, ⟨(some 118), (.mv (.t 20)), (some (117, false)), [14]⟩, ⟨(some 119), (.mv (.t 18)), (some (117, false)), [14]⟩, ⟨(some 120), (.bin .gtr (.t 118) (.t 119)), (some (117, false)), [15, 16, 14]⟩, ⟨(some 121), (.pick (.t 117) (.c (.bool true)) (.t 120)), none, [14, 17]⟩, ⟨(some 122), (.mv (.t 121)), none, [18, 14]⟩, ⟨(some 123), (.mv (.t 16)), (some (122, false)), [19]⟩, ⟨(some 124), (.len (.t 123)), (some (122, false)), [20, 19]⟩, ⟨(some 125), (.bin .eql (.t 124) (.c (.int .i64 0))), (some (122, false)), [21, 19]⟩, ⟨(some 126), (.pick (.t 122) (.c (.bool true)) (.t 125)), none, [19, 22]⟩] false) (.cond (.t 126) (.seq (.reg [⟨(some 6), (.mv (.c (.bool false))), none, []⟩] false) .ret) .skip)) (.seq (.seq (.reg [⟨(some 127), (.mv (.t 16)), none, []⟩, ⟨(some 128), (.len (.t 127)), none, [0]⟩, ⟨(some 129), (.mv (.c (.int .i64 0))), none, []⟩] false) (.block 0 (.loop (.seq (.reg [⟨(some 130), (.bin .lss (.t 129) (.t 128)), none, []⟩] false) (.seq (.cond (.t 130) .skip (.exit 0)) (.seq (.block 1 (.seq (.reg [⟨(some 131), (.ixsl 6 (.t 127) (.t 129)), none, []⟩, ⟨(some 132), (.ld true 6 (.t 131)), none, [0]⟩, ⟨(some 23), (.alloc 63 6 [(.int .i64 0), (.int .i64 0), (.int .i64 0), (.int .i64 0), (.int .i64 0), (.int .i64 0)]), none, []⟩, ⟨none, (.st 6 (.t 23) (.t 132)), none, [2, 1, 0, 1, 2]⟩] false) (.seq (.reg [⟨(some 133), (.ld true 6 (.t 23)), none, []⟩, ⟨(some 134), (.mv (.c (.int .i64 0))), none, []⟩] false) (.block 2 (.loop (.seq (.reg [⟨(some 135), (.bin .lss (.t 134) (.c (.int .i64 2))), none, []⟩] false) (.seq (.cond (.t 135) .skip (.exit 2)) (.seq (.block 3 (.seq (.reg [⟨(some 136), (.ixval 2 3 true (.t 133) (.t 134)), none, []⟩, ⟨(some 25), (.alloc 26 3 [(.int .i64 0), (.int .i64 0), (.int .i64 0)]), none, []⟩, ⟨none, (.st 3 (.t 25) (.t 136)), none, [1, 0, 0, 1]⟩] false) (.seq (.reg [⟨(some 26), (.mv (.c (.bool false))), none, []⟩] false) (.seq (.seq (.reg [⟨(some 137), (.mv (.t 9)), none, []⟩, ⟨(some 138), (.mv (.t 11)), none, []⟩, ⟨(some 139), (.mv (.t 12)), none, []⟩, ⟨(some 140), (.bin .add (.t 139) (.c (.int .i64 1))), none, [2]⟩, ⟨(some 141), (.slc 3 (.t 137) (some (.t 138)) (some (.t 140))), none, [0, 1, 3]⟩, ⟨(some 142), (.len (.t 141)), none, [4]⟩, ⟨(some 143), (.mv (.c (.int .i64 0))), none, []⟩] false) (.block 4 (.loop (.seq (.reg [⟨(some 144), (.bin .lss (.t 143) (.t 142)), none, []⟩] false) (.seq (.cond (.t 144) .skip (.exit 4)) (.seq (.block 5 (.seq (.reg [⟨(some 145), (.ixsl 3 (.t 141) (.t 143)), none, []⟩, ⟨(some 146), (.ld true 3 (.t 145)), none, [0]⟩, ⟨(some 28), (.alloc 26 3 [(.int .i64 0), (.int .i64 0), (.int .i64 0)]), none, []⟩, ⟨none, (.st 3 (.t 28) (.t 146)), none, [2, 1, 0, 1, 2]⟩] false) (.reg [⟨(some 147), (.mv (.t 26)), none, []⟩, ⟨(some 148), (.mv (.t 147)), none, [0]⟩, ⟨(some 149), (.ld true 3 (.t 28)), (some (148, false)), [1]⟩, ⟨(some 150), (.ld true 3 (.t 25)), (some (148, false)), [1]⟩, ⟨(some 151), (.aeq false 3 (.t 149) (.t 150)), (some (148, false)), [2, 3, 1]⟩, ⟨(some 152), (.pick (.t 148) (.c (.bool true)) (.t 151)), none, [1, 4]⟩, ⟨(some 26), (.mv (.t 152)), none, [5, 1, 0, 1, 2, 3, 4, 5]⟩] false))) (.reg [⟨(some 153), (.bin .add (.t 143) (.c (.int .i64 1))), none, []⟩, ⟨(some 143), (.mv (.t 153)), none, [0]⟩] false))))))) (.seq (.reg [⟨(some 154), (.mv (.t 26)), none, []⟩, ⟨(some 155), (.un .not (.t 154)), none, [0]⟩] false) (.cond (.t 155) (.seq (.reg [⟨(some 6), (.mv (.c (.bool false))), none, []⟩] false) .ret) .skip)))))) (.reg [⟨(some 156), (.bin .add (.t 134) (.c (.int .i64 1))), none, []⟩, ⟨(some 134), (.mv (.t 156)), none, [0]⟩] false))))))))) (.reg [⟨(some 157), (.bin .add (.t 129) (.c (.int .i64 1))), none, []⟩, ⟨(some 129), (.mv (.t 157)), none, [0]⟩] false))))))) (.seq (.reg [⟨(some 158), (.mv (.t 7)), none, []⟩, ⟨(some 159), (.mv (.t 158)), none, [0]⟩, ⟨(some 160), (.mv (.t 16)), (some (159, true)), [1]⟩, ⟨(some 161), (.ixsl 6 (.t 160) (.c (.int .i64 0))), (some (159, true)), [2, 1]⟩, ⟨(some 162), (.ixarr 2 3 (.t 161) (.c (.int .i64 0))), (some (159, true)), [3, 1]⟩, ⟨(some 163), (.ld true 3 (.t 162)), (some (159, true)), [4, 1]⟩, ⟨(some 164), (.mv (.t 9)), (some (159, true)), [1]⟩, ⟨(some 165), (.mv (.t 11)), (some (159, true)), [1]⟩, ⟨(some 166), (.ixsl 3 (.t 164) (.t 165)), (some (159, true)), [6, 7, 1]⟩, ⟨(some 167), (.ld true 3 (.t 166)), (some (159, true)), [8, 1]⟩, ⟨(some 168), (.aeq false 3 (.t 163) (.t 167)), (some (159, true)), [5, 9, 1]⟩, ⟨(some 169), (.pick (.t 159) (.t 168) (.c (.bool false))), none, [1, 10]⟩, ⟨(some 170), (.mv (.t 169)), none, [11, 1]⟩, ⟨(some 171), (.mv (.t 16)), (some (170, true)), [12]⟩, ⟨(some 172), (.mv (.t 16)), (some (170, true)), [12]⟩, ⟨(some 173), (.len (.t 172)), (some (170, true)), [14, 12]⟩, ⟨(some 174), (.bin .sub (.t 173) (.c (.int .i64 1))), (some (170, true)), [15, 12]⟩, ⟨(some 175), (.ixsl 6 (.t 171) (.t 174)), (some (170, true)), [13, 16, 12]⟩, ⟨(some 176), (.ixarr 2 3 (.t 175) (.c (.int .i64 1))), (some (170, true)), [17, 12]⟩, ⟨(some 177), (.ld true 3 (.t 176)), (some (170, true)), [18, 12]⟩, ⟨(some 178), (.mv (.t 9)), (some (170, true)), [12]⟩, ⟨(some 179), (.mv (.t 12)), (some (170, true)), [12]⟩, ⟨(some 180), (.ixsl 3 (.t 178) (.t 179)), (some (170, true)), [20, 21, 12]⟩, ⟨(some 181), (.ld true 3 (.t 180)), (some (170, true)), [22, 12]⟩, ⟨(some 182), (.aeq false 3 (.t 177) (.t 181)), (some (170, true)), [19, 23, 12]⟩, ⟨(some 183), (.pick (.t 170) (.t 182) (.c (.bool false))), none, [12, 24]⟩, ⟨(some 6), (.mv (.t 183)), none, [25, 12, 0, 1, 2, 3, 4, 5, 6, 7, 8, 9, 10, 11, 12, 13, 14, 15, 16, 17, 18, 19, 20, 21, 22, 23, 24, 25]⟩] true) .ret)))))))))))))))
theorem mcOk8 : (match Try.f8.body with | some c => compC Try.prog 184 c | none => none) = some mc8 := by kernel_rfl

set_option maxHeartbeats 1600000 in
theorem fc8 (l : List Int) (hl : l.length ≤ 4611686018427387904) (s0 s1 y0 y1 y2 : Int) (hs0 : 0 ≤ s0 ∧ s0 < 256) (hs1 : 0 ≤ s1 ∧ s1 < 256) (hy0 : 0 ≤ y0 ∧ y0 < 256) (hy1 : 0 ≤ y1 ∧ y1 < 256) (hy2 : 0 ≤ y2 ∧ y2 < 256) : FC Try.prog 8 [ints l, .agg [.int .u8 s0, .int .u8 s1], .agg [.int .u8 y0, .int .u8 y1, .int .u8 y2]] [] (.bool true) [] false := by
  obtain ⟨m, hm⟩ : ∃ m, m = madeS l := ⟨_, rfl⟩
  have h10 : FC Try.prog 10 [ints l] [] (aM m) [] false := by rw [hm]; exact fc10 l hl
  have hc : checkS m = 0 := by rw [hm]; exact made_ok l
  have h2 := path_two hc
  have hpl := path_len m
  clear hm
  have hi := ck_in hc
  have ht0 := tmodr y0 41 hy0.1 (by decide)
  have ht1 := tmodr y1 41 hy1.1 (by decide)
  have ht2 := tmodr y2 41 hy2.1 (by decide)
  have ha := tmodr s0 ((pathS m).length : Int) hs0.1 (by omega)
  have hb' := tmodr s1 ((pathS m).length : Int) hs1.1 (by omega)
  obtain ⟨i, hi_⟩ : ∃ i, i = min (s0.tmod ((pathS m).length : Int)) (s1.tmod ((pathS m).length : Int)) := ⟨_, rfl⟩
  obtain ⟨j, hj_⟩ : ∃ j, j = max (s0.tmod ((pathS m).length : Int)) (s1.tmod ((pathS m).length : Int)) := ⟨_, rfl⟩
  have hij : 0 ≤ i ∧ i ≤ j ∧ j < (pathS m).length := by omega
  have hb : btwB m i j = true := decide_eq_true hij
  have h19 := fc19 m i j
  have h21 := fc21 m i j
  rw [hb] at h19 h21
  have hyb := y_bd hy0 hy1 hy2
  have hbl := btw_len hb
  have hble := btw_le m i j
  have h33a := fc33 (outS m i j) (yV y0 y1 y2) (out_bd hc i j) (hyb.mono (by decide)) (out_le3 m i j)
  have hknl := kn_le49 m i j
  have h33b := fc33 (btwS m i j) (yV y0 y1 y2) (btw_bd hc i j) (hyb.mono (by decide)) (by omega)
  rw [decide_eq_true (by have := out_one hb; omega)] at h33a
  rw [decide_eq_true (by omega)] at h33b
  have hle := sup_le (by omega) (out_one hb) (out_far hc hb (yV y0 y1 y2))
  obtain ⟨hkn1, hkn2, ⟨pa, hpa, hpa1⟩, ⟨pb, hpb, hpb1⟩⟩ := kn_facts hb
  refine fc_run (nt := 184) Try.func8 rfl rfl mcOk8 (Nat.le_of_ble_eq_true rfl) ?_
  delta mc8
  refine aw_seq ?_
  refine aw_reg ?_
  refine rs_box rfl rfl rfl rfl rfl rfl ?_
  refine rs_box rfl rfl rfl rfl rfl rfl ?_
  refine rs_mv rfl rfl ?_
  refine rs_nil fun _ => ?_
  refine th_n ?_
  refine aw_seq ?_
  refine aw_reg ?_
  refine rs_calln [] rfl rfl fc9 .nil rfl ?_
  refine rs_mv rfl rfl ?_
  refine rs_nil fun _ => ?_
  refine th_n ?_
  refine aw_seq ?_
  refine aw_reg ?_
  refine rs_mv rfl rfl ?_
  refine rs_calln [] rfl rfl (h10) (.cons (hv_same rfl) (.nil)) rfl ?_
  refine rs_alloc rfl rfl rfl ?_
  refine rs_st rfl rfl rfl rfl rfl rfl rfl (Nat.le_of_ble_eq_true rfl) rfl rfl ?_
  refine rs_nil fun _ => ?_
  refine th_n ?_
  refine aw_seq ?_
  refine aw_reg ?_
  first | refine rs_ld_pa rfl rfl rfl rfl (Nat.le_of_ble_eq_true rfl) rfl ?_ | refine rs_ld_ra rfl rfl (Nat.le_of_ble_eq_true rfl) rfl ?_ | refine rs_ld_ma rfl rfl rfl (by omega) (Nat.le_of_ble_eq_true rfl) rfl ?_
  refine rs_calln [] rfl rfl (fc25 m h2) (.cons (hv_same rfl) (.nil)) rfl ?_
  refine rs_mv rfl rfl ?_
  refine rs_ext rfl rfl rfl ?_
  refine rs_ext rfl rfl rfl ?_
  refine rs_mv rfl rfl ?_
  refine rs_mv rfl rfl ?_
  refine rs_nil fun _ => ?_
  refine th_n ?_
  refine aw_seq ?_
  refine aw_seq ?_
  refine aw_reg ?_
  refine rs_mv rfl rfl ?_
  refine rs_not rfl rfl ?_
  refine rs_nil fun _ => ?_
  refine th_n ?_
  refine aw_cond rfl (fun h => by cases h) (fun _ => ?_)
  refine aw_skip ?_
  refine th_n ?_
  refine aw_seq ?_
  refine aw_draw hmix ?_
  refine rs_ixarr_p rfl rfl rfl (by decide) (by decide) ?_
  first | refine rs_ld_r rfl rfl rfl ?_ | refine rs_ld_p rfl rfl rfl rfl rfl ?_ | refine rs_ld_m rfl rfl rfl (by omega) rfl ?_
  refine rs_cvt rfl rfl (W_eq (by omega)) ?_
  refine rs_mv rfl rfl ?_
  first | refine rs_len_m rfl rfl ?_ | refine rs_len_s rfl rfl ?_ | refine rs_len_n rfl rfl ?_ | refine rs_len_r rfl rfl rfl ?_
  refine rs_rem rfl rfl rfl (by omega) rfl ?_
  refine rs_ixarr_p rfl rfl rfl (by decide) (by decide) ?_
  first | refine rs_ld_r rfl rfl rfl ?_ | refine rs_ld_p rfl rfl rfl rfl rfl ?_ | refine rs_ld_m rfl rfl rfl (by omega) rfl ?_
  refine rs_cvt rfl rfl (W_eq (by omega)) ?_
  refine rs_mv rfl rfl ?_
  first | refine rs_len_m rfl rfl ?_ | refine rs_len_s rfl rfl ?_ | refine rs_len_n rfl rfl ?_ | refine rs_len_r rfl rfl rfl ?_
  refine rs_rem rfl rfl rfl (by omega) rfl ?_
  refine rs_mv rfl rfl ?_
  refine rs_mv rfl rfl ?_
  refine rs_nil ⟨by kernel_rfl, fun _ => ?_⟩
  refine th_n ?_
  refine aw_seq ?_
  refine aw_reg ?_
  refine rs_mv rfl rfl ?_
  refine rs_mv rfl rfl ?_
  refine rs_mn rfl rfl rfl hi_.symm ?_
  refine rs_mv rfl rfl ?_
  refine rs_mv rfl rfl ?_
  refine rs_mx rfl rfl rfl hj_.symm ?_
  refine rs_mv rfl rfl ?_
  refine rs_mv rfl rfl ?_
  refine rs_nil fun _ => ?_
  refine th_n ?_
  refine aw_seq ?_
  refine aw_reg ?_
  refine rs_ixarr_p rfl rfl rfl (by decide) (by decide) ?_
  first | refine rs_ld_r rfl rfl rfl ?_ | refine rs_ld_p rfl rfl rfl rfl rfl ?_ | refine rs_ld_m rfl rfl rfl (by omega) rfl ?_
  refine rs_rem rfl rfl rfl (by decide) rfl ?_
  refine rs_cvt rfl rfl (W_eq (by omega)) ?_
  first | refine rs_sub rfl rfl rfl (by omega) ?_ | refine rs_subw rfl rfl rfl rfl ?_
  refine rs_ixarr_p rfl rfl rfl (by decide) (by decide) ?_
  first | refine rs_ld_r rfl rfl rfl ?_ | refine rs_ld_p rfl rfl rfl rfl rfl ?_ | refine rs_ld_m rfl rfl rfl (by omega) rfl ?_
  refine rs_rem rfl rfl rfl (by decide) rfl ?_
  refine rs_cvt rfl rfl (W_eq (by omega)) ?_
  first | refine rs_sub rfl rfl rfl (by omega) ?_ | refine rs_subw rfl rfl rfl rfl ?_
  refine rs_ixarr_p rfl rfl rfl (by decide) (by decide) ?_
  first | refine rs_ld_r rfl rfl rfl ?_ | refine rs_ld_p rfl rfl rfl rfl rfl ?_ | refine rs_ld_m rfl rfl rfl (by omega) rfl ?_
  refine rs_rem rfl rfl rfl (by decide) rfl ?_
  refine rs_cvt rfl rfl (W_eq (by omega)) ?_
  first | refine rs_sub rfl rfl rfl (by omega) ?_ | refine rs_subw rfl rfl rfl rfl ?_
  refine rs_build rfl rfl ?_
  refine rs_alloc rfl rfl rfl ?_
  refine rs_st rfl rfl rfl rfl rfl rfl rfl (Nat.le_of_ble_eq_true rfl) rfl rfl ?_
  refine rs_nil fun _ => ?_
  refine th_n ?_
  refine aw_seq ?_
  refine aw_reg ?_
  first | refine rs_ld_pa rfl rfl rfl rfl (Nat.le_of_ble_eq_true rfl) rfl ?_ | refine rs_ld_ra rfl rfl (Nat.le_of_ble_eq_true rfl) rfl ?_ | refine rs_ld_ma rfl rfl rfl (by omega) (Nat.le_of_ble_eq_true rfl) rfl ?_
  refine rs_mv rfl rfl ?_
  refine rs_mv rfl rfl ?_
  refine rs_callo [] rfl rfl (h19) (.cons (hv_same rfl) (.cons (hv_same rfl) (.cons (hv_same rfl) (.nil)))) (.nil) rfl rfl rfl ?_
  refine rs_mv rfl rfl ?_
  refine rs_ext rfl rfl rfl ?_
  refine rs_ext rfl rfl rfl ?_
  refine rs_mv rfl rfl ?_
  refine rs_mv rfl rfl ?_
  refine rs_nil fun _ => ?_
  refine th_n ?_
  refine aw_seq ?_
  refine aw_reg ?_
  first | refine rs_ld_pa rfl rfl rfl rfl (Nat.le_of_ble_eq_true rfl) rfl ?_ | refine rs_ld_ra rfl rfl (Nat.le_of_ble_eq_true rfl) rfl ?_ | refine rs_ld_ma rfl rfl rfl (by omega) (Nat.le_of_ble_eq_true rfl) rfl ?_
  refine rs_mv rfl rfl ?_
  refine rs_mv rfl rfl ?_
  refine rs_callo [] rfl rfl (h21) (.cons (hv_same rfl) (.cons (hv_same rfl) (.cons (hv_same rfl) (.nil)))) (.nil) rfl rfl rfl ?_
  refine rs_mv rfl rfl ?_
  refine rs_ext rfl rfl rfl ?_
  refine rs_ext rfl rfl rfl ?_
  refine rs_mv rfl rfl ?_
  refine rs_mv rfl rfl ?_
  refine rs_nil fun _ => ?_
  refine th_n ?_
  refine aw_seq ?_
  refine aw_reg ?_
  refine rs_mv rfl rfl ?_
  first | refine rs_ld_pa rfl rfl rfl rfl (Nat.le_of_ble_eq_true rfl) rfl ?_ | refine rs_ld_ra rfl rfl (Nat.le_of_ble_eq_true rfl) rfl ?_ | refine rs_ld_ma rfl rfl rfl (by omega) (Nat.le_of_ble_eq_true rfl) rfl ?_
  refine rs_calln [] rfl rfl (h33a) (.cons (hv_same rfl) (.cons (hv_same rfl) (.nil))) rfl ?_
  refine rs_mv rfl rfl ?_
  refine rs_ext rfl rfl rfl ?_
  refine rs_ext rfl rfl rfl ?_
  refine rs_mv rfl rfl ?_
  refine rs_mv rfl rfl ?_
  refine rs_nil fun _ => ?_
  refine th_n ?_
  refine aw_seq ?_
  refine aw_draw hmix ?_
  refine rs_mv rfl rfl ?_
  refine rs_mv rfl rfl ?_
  refine rs_mv rfl rfl ?_
  first | refine rs_add rfl rfl rfl (by omega) ?_ | refine rs_addw rfl rfl rfl rfl ?_
  refine rs_slc_r rfl rfl rfl rfl rfl (by omega) (by omega) (by simp; omega) (btw_def hb) ?_
  first | refine rs_ld_pa rfl rfl rfl rfl (Nat.le_of_ble_eq_true rfl) rfl ?_ | refine rs_ld_ra rfl rfl (Nat.le_of_ble_eq_true rfl) rfl ?_ | refine rs_ld_ma rfl rfl rfl (by omega) (Nat.le_of_ble_eq_true rfl) rfl ?_
  refine rs_calln [] rfl rfl (h33b) (.cons (hv_same rfl) (.cons (hv_same rfl) (.nil))) rfl ?_
  refine rs_mv rfl rfl ?_
  refine rs_ext rfl rfl rfl ?_
  refine rs_ext rfl rfl rfl ?_
  refine rs_mv rfl rfl ?_
  refine rs_mv rfl rfl ?_
  refine rs_nil ⟨by kernel_rfl, fun _ => ?_⟩
  refine th_n ?_
  refine aw_seq ?_
  refine aw_seq ?_
  refine aw_reg ?_
  refine rs_mv rfl rfl ?_
  refine rs_not rfl rfl ?_
  refine rs_mv rfl rfl ?_
  refine rs_mv rfl rfl ?_
  refine rs_not rfl rfl ?_
  refine rs_pick rfl rfl rfl ?_
  refine rs_mv rfl rfl ?_
  refine rs_mv rfl rfl ?_
  refine rs_not rfl rfl ?_
  refine rs_pick rfl rfl rfl ?_
  refine rs_mv rfl rfl ?_
  refine rs_mv rfl rfl ?_
  refine rs_not rfl rfl ?_
  refine rs_pick rfl rfl rfl ?_
  refine rs_mv rfl rfl ?_
  refine rs_mv rfl rfl ?_
  refine rs_mv rfl rfl ?_
  refine rs_cmp_f rfl rfl rfl rfl (by omega) ?_
  refine rs_pick rfl rfl rfl ?_
  refine rs_mv rfl rfl ?_
  refine rs_mv rfl rfl ?_
  first | refine rs_len_m rfl rfl ?_ | refine rs_len_s rfl rfl ?_ | refine rs_len_n rfl rfl ?_ | refine rs_len_r rfl rfl rfl ?_
  refine rs_cmp_f rfl rfl rfl rfl (by omega) ?_
  refine rs_pick rfl rfl rfl ?_
  refine rs_nil fun _ => ?_
  refine th_n ?_
  refine aw_cond rfl (fun h => by cases h) (fun _ => ?_)
  refine aw_skip ?_
  refine th_n ?_
  refine aw_seq ?_
  refine aw_seq ?_
  refine aw_reg ?_
  refine rs_mv rfl rfl ?_
  first | refine rs_len_m rfl rfl ?_ | refine rs_len_s rfl rfl ?_ | refine rs_len_n rfl rfl ?_ | refine rs_len_r rfl rfl rfl ?_
  refine rs_mv rfl rfl ?_
  refine rs_nil fun _ => ?_
  refine th_n ?_
  refine aw_block ?_
  refine aw_fam (α := Nat) (fun k => (knS m i j).length - k) (fun k => [(7, .bool true), (9, .rs 3 ((pathS m).map cV)), (11, iv i), (12, iv j), (16, .rs 6 ((knS m i j).map cP)), (127, .rs 6 ((knS m i j).map cP)), (128, iv ((knS m i j).length : Int)), (129, iv (((k) : Nat) : Int))]) (fun k => []) (fun k => k ≤ (knS m i j).length) 0 (by omega)
    (weak_to (.cons rfl (rc_same rfl (.inl rfl)) (.cons rfl (rc_same rfl (.inl rfl)) (.cons rfl (rc_same rfl (.inl rfl)) (.cons rfl (rc_same rfl (.inl rfl)) (.cons rfl (rc_same rfl (.inl rfl)) (.cons rfl (rc_same rfl (.inl rfl)) (.cons rfl (rc_same rfl (.inl rfl)) (.cons rfl (rc_same rfl (.inl rfl)) (.nil))))))))) (.nil) (fun i h => by cases h)) ?_
  intro k hk
  refine aw_seq ?_
  refine aw_reg ?_
  refine rs_lss rfl rfl rfl ?_
  refine rs_nil fun _ => ?_
  refine th_n ?_
  refine aw_seq ?_
  refine aw_cond rfl (fun h130 => ?_) (fun h130 => ?_)
  · first | replace h130 := of_decide_eq_true h130 | skip
    refine aw_skip ?_
    refine th_n ?_
    refine aw_seq ?_
    refine aw_block ?_
    refine aw_seq ?_
    refine aw_reg ?_
    obtain ⟨p, hp, hpm⟩ := at_some (L := knS m i j) (k := k) (by omega)
    refine rs_ix_g rfl rfl rfl (by omega) hp ?_
    refine rs_ld_ra rfl rfl (Nat.le_of_ble_eq_true rfl) rfl ?_
    refine rs_alloc rfl rfl rfl ?_
    refine rs_st rfl rfl rfl rfl rfl rfl rfl (Nat.le_of_ble_eq_true rfl) rfl rfl ?_
    refine rs_nil fun _ => ?_
    refine th_n ?_
    refine aw_seq ?_
    refine aw_reg ?_
    first | refine rs_ld_pa rfl rfl rfl rfl (Nat.le_of_ble_eq_true rfl) rfl ?_ | refine rs_ld_ra rfl rfl (Nat.le_of_ble_eq_true rfl) rfl ?_ | refine rs_ld_ma rfl rfl rfl (by omega) (Nat.le_of_ble_eq_true rfl) rfl ?_
    refine rs_mv rfl rfl ?_
    refine rs_nil fun _ => ?_
    refine th_n ?_
    refine aw_block ?_
    refine aw_fam (α := Nat) (fun q => 2 - q) (fun q => [(7, .bool true), (9, .rs 3 ((pathS m).map cV)), (11, iv i), (12, iv j), (16, .rs 6 ((knS m i j).map cP)), (127, .rs 6 ((knS m i j).map cP)), (128, iv ((knS m i j).length : Int)), (129, iv (((k) : Nat) : Int)), (133, .agg (cP p)), (134, iv (((q) : Nat) : Int))]) (fun q => []) (fun q => q ≤ 2) 0 (by omega)
      (weak_to (.cons rfl (rc_same rfl (.inl rfl)) (.cons rfl (rc_same rfl (.inl rfl)) (.cons rfl (rc_same rfl (.inl rfl)) (.cons rfl (rc_same rfl (.inl rfl)) (.cons rfl (rc_same rfl (.inl rfl)) (.cons rfl (rc_same rfl (.inl rfl)) (.cons rfl (rc_same rfl (.inl rfl)) (.cons rfl (rc_same rfl (.inl rfl)) (.cons rfl (rc_same rfl (.inl rfl)) (.cons rfl (rc_same rfl (.inl rfl)) (.nil))))))))))) (.nil) (fun i h => by cases h)) ?_
    intro q hq
    refine aw_seq ?_
    refine aw_reg ?_
    refine rs_lss rfl rfl rfl ?_
    refine rs_nil fun _ => ?_
    refine th_n ?_
    refine aw_seq ?_
    refine aw_cond rfl (fun h135 => ?_) (fun h135 => ?_)
    · first | replace h135 := of_decide_eq_true h135 | skip
      refine aw_skip ?_
      refine th_n ?_
      refine aw_seq ?_
      refine aw_block ?_
      refine aw_seq ?_
      refine aw_reg ?_
      have hq01 : q = 0 ∨ q = 1 := by omega
      rcases hq01 with rfl | rfl
      · obtain ⟨v, hv0⟩ : ∃ v, v = p.1 := ⟨_, rfl⟩
        have hv : v ∈ btwS m i j := by rw [hv0]; exact (hkn2 p hpm).1
        refine rs_ixvala rfl rfl rfl (by decide) (by decide) (Nat.le_of_ble_eq_true rfl) rfl ?_
        refine rs_alloc rfl rfl rfl ?_
        refine rs_st rfl rfl rfl rfl rfl rfl rfl (Nat.le_of_ble_eq_true rfl) rfl rfl ?_
        refine rs_nil fun _ => ?_
        refine th_n ?_
        refine aw_seq ?_
        refine aw_reg ?_
        refine rs_mv rfl rfl ?_
        refine rs_nil fun _ => ?_
        refine th_n ?_
        refine aw_seq ?_
        refine aw_seq ?_
        refine aw_reg ?_
        refine rs_mv rfl rfl ?_
        refine rs_mv rfl rfl ?_
        refine rs_mv rfl rfl ?_
        first | refine rs_add rfl rfl rfl (by omega) ?_ | refine rs_addw rfl rfl rfl rfl ?_
        refine rs_slc_r rfl rfl rfl rfl rfl (by omega) (by omega) (by simp; omega) (btw_def hb) ?_
        first | refine rs_len_m rfl rfl ?_ | refine rs_len_s rfl rfl ?_ | refine rs_len_n rfl rfl ?_ | refine rs_len_r rfl rfl rfl ?_
        refine rs_mv rfl rfl ?_
        refine rs_nil fun _ => ?_
        refine th_n ?_
        refine aw_block ?_
        first
          | refine aw_fam (α := Nat) (fun e => (btwS m i j).length - e) (fun e => [(7, .bool true), (9, .rs 3 ((pathS m).map cV)), (11, iv i), (12, iv j), (16, .rs 6 ((knS m i j).map cP)), (127, .rs 6 ((knS m i j).map cP)), (128, iv ((knS m i j).length : Int)), (129, iv (((k) : Nat) : Int)), (133, .agg (cP p)), (134, iv ((0 : Nat) : Int)), (25, .ptr 25 0 0), (26, .bool (decide (v ∈ (btwS m i j).take (e)))), (141, .rs 3 ((btwS m i j).map cV)), (142, iv ((btwS m i j).length : Int)), (143, iv (((e) : Nat) : Int))]) (fun e => [(25, .cells 26 3 [cV v] true)]) (fun e => e ≤ (btwS m i j).length) 0 (by omega)
              (weak_to (.cons rfl (rc_same rfl (.inl rfl)) (.cons rfl (rc_same rfl (.inl rfl)) (.cons rfl (rc_same rfl (.inl rfl)) (.cons rfl (rc_same rfl (.inl rfl)) (.cons rfl (rc_same rfl (.inl rfl)) (.cons rfl (rc_same rfl (.inl rfl)) (.cons rfl (rc_same rfl (.inl rfl)) (.cons rfl (rc_same rfl (.inl rfl)) (.cons rfl (rc_same rfl (.inl rfl)) (.cons rfl (rc_same rfl (.inl rfl)) (.cons rfl (rc_same rfl (.inl rfl)) (.cons rfl (rc_eq (by simp) rfl) (.cons rfl (rc_same rfl (.inl rfl)) (.cons rfl (rc_same rfl (.inl rfl)) (.cons rfl (rc_same rfl (.inl rfl)) (.nil)))))))))))))))) (.keep ((by (rw [hv0]) <;> rfl)) rfl (.nil)) (fun i h => by cases h)) ?_
          | refine aw_fam (α := Nat) (fun e => (btwS m i j).length - e) (fun e => [(7, .bool true), (9, .rs 3 ((pathS m).map cV)), (11, iv i), (12, iv j), (16, .rs 6 ((knS m i j).map cP)), (127, .rs 6 ((knS m i j).map cP)), (128, iv ((knS m i j).length : Int)), (129, iv (((k) : Nat) : Int)), (133, .agg (cP p)), (134, iv ((1 : Nat) : Int)), (25, .ptr 25 0 0), (26, .bool (decide (v ∈ (btwS m i j).take (e)))), (141, .rs 3 ((btwS m i j).map cV)), (142, iv ((btwS m i j).length : Int)), (143, iv (((e) : Nat) : Int))]) (fun e => [(25, .cells 26 3 [cV v] true)]) (fun e => e ≤ (btwS m i j).length) 0 (by omega)
              (weak_to (.cons rfl (rc_same rfl (.inl rfl)) (.cons rfl (rc_same rfl (.inl rfl)) (.cons rfl (rc_same rfl (.inl rfl)) (.cons rfl (rc_same rfl (.inl rfl)) (.cons rfl (rc_same rfl (.inl rfl)) (.cons rfl (rc_same rfl (.inl rfl)) (.cons rfl (rc_same rfl (.inl rfl)) (.cons rfl (rc_same rfl (.inl rfl)) (.cons rfl (rc_same rfl (.inl rfl)) (.cons rfl (rc_same rfl (.inl rfl)) (.cons rfl (rc_same rfl (.inl rfl)) (.cons rfl (rc_eq (by simp) rfl) (.cons rfl (rc_same rfl (.inl rfl)) (.cons rfl (rc_same rfl (.inl rfl)) (.cons rfl (rc_same rfl (.inl rfl)) (.nil)))))))))))))))) (.keep ((by (rw [hv0]) <;> rfl)) rfl (.nil)) (fun i h => by cases h)) ?_
        intro e he
        refine aw_seq ?_
        refine aw_reg ?_
        refine rs_lss rfl rfl rfl ?_
        refine rs_nil fun _ => ?_
        refine th_n ?_
        refine aw_seq ?_
        refine aw_cond rfl (fun h144 => ?_) (fun h144 => ?_)
        · first | replace h144 := of_decide_eq_true h144 | skip
          refine aw_skip ?_
          refine th_n ?_
          refine aw_seq ?_
          refine aw_block ?_
          refine aw_seq ?_
          refine aw_reg ?_
          obtain ⟨z, hz, _⟩ := at_some (L := btwS m i j) (k := e) (by omega)
          refine rs_ix_g rfl rfl rfl (by omega) hz ?_
          refine rs_ld_ra rfl rfl (Nat.le_of_ble_eq_true rfl) rfl ?_
          refine rs_alloc rfl rfl rfl ?_
          refine rs_st rfl rfl rfl rfl rfl rfl rfl (Nat.le_of_ble_eq_true rfl) rfl rfl ?_
          refine rs_nil fun _ => ?_
          refine th_n ?_
          refine aw_reg ?_
          refine rs_mv rfl rfl ?_
          cases h147 : decide (v ∈ (btwS m i j).take e)
          · skip
            refine rs_mv rfl rfl ?_
            first | refine rs_ld_pa rfl rfl rfl rfl (Nat.le_of_ble_eq_true rfl) rfl ?_ | refine rs_ld_ra rfl rfl (Nat.le_of_ble_eq_true rfl) rfl ?_ | refine rs_ld_ma rfl rfl rfl (by omega) (Nat.le_of_ble_eq_true rfl) rfl ?_
            first | refine rs_ld_pa rfl rfl rfl rfl (Nat.le_of_ble_eq_true rfl) rfl ?_ | refine rs_ld_ra rfl rfl (Nat.le_of_ble_eq_true rfl) rfl ?_ | refine rs_ld_ma rfl rfl rfl (by omega) (Nat.le_of_ble_eq_true rfl) rfl ?_
            refine rs_aeqv (u := z) (v := v) rfl rfl rfl ?_
            refine rs_pick rfl rfl rfl ?_
            refine rs_mv rfl rfl ?_
            refine rs_nil fun _ => ?_
            refine in_n ?_
            refine th_n ?_
            refine aw_reg ?_
            first | refine rs_add rfl rfl rfl (by omega) ?_ | refine rs_addw rfl rfl rfl rfl ?_
            refine rs_mv rfl rfl ?_
            refine rs_nil fun _ => ?_
            refine th_n ?_
            first
              | exact ⟨e + 1, by omega, by omega, weak_to (.cons rfl (rc_same rfl (.inl rfl)) (.cons rfl (rc_same rfl (.inl rfl)) (.cons rfl (rc_same rfl (.inl rfl)) (.cons rfl (rc_same rfl (.inl rfl)) (.cons rfl (rc_same rfl (.inl rfl)) (.cons rfl (rc_same rfl (.inl rfl)) (.cons rfl (rc_same rfl (.inl rfl)) (.cons rfl (rc_same rfl (.inl rfl)) (.cons rfl (rc_same rfl (.inl rfl)) (.cons rfl (rc_same rfl (.inl rfl)) (.cons rfl (rc_same rfl (.inl rfl)) (.cons rfl (rc_eq (congrArg AV.bool (mem_succ_t hz h147)) rfl) (.cons rfl (rc_same rfl (.inl rfl)) (.cons rfl (rc_same rfl (.inl rfl)) (.cons rfl (rc_same rfl (.inl rfl)) (.nil)))))))))))))))) (.keep (rfl) rfl (.nil)) (fun i h => by cases h)⟩
              | exact ⟨e + 1, by omega, by omega, weak_to (.cons rfl (rc_same rfl (.inl rfl)) (.cons rfl (rc_same rfl (.inl rfl)) (.cons rfl (rc_same rfl (.inl rfl)) (.cons rfl (rc_same rfl (.inl rfl)) (.cons rfl (rc_same rfl (.inl rfl)) (.cons rfl (rc_same rfl (.inl rfl)) (.cons rfl (rc_same rfl (.inl rfl)) (.cons rfl (rc_same rfl (.inl rfl)) (.cons rfl (rc_same rfl (.inl rfl)) (.cons rfl (rc_same rfl (.inl rfl)) (.cons rfl (rc_same rfl (.inl rfl)) (.cons rfl (rc_eq (congrArg AV.bool (mem_succ hz h147)) rfl) (.cons rfl (rc_same rfl (.inl rfl)) (.cons rfl (rc_same rfl (.inl rfl)) (.cons rfl (rc_same rfl (.inl rfl)) (.nil)))))))))))))))) (.keep (rfl) rfl (.nil)) (fun i h => by cases h)⟩
              | exact ⟨e + 1, by omega, by omega, weak_to (.cons rfl (rc_same rfl (.inl rfl)) (.cons rfl (rc_same rfl (.inl rfl)) (.cons rfl (rc_same rfl (.inl rfl)) (.cons rfl (rc_same rfl (.inl rfl)) (.cons rfl (rc_same rfl (.inl rfl)) (.cons rfl (rc_same rfl (.inl rfl)) (.cons rfl (rc_same rfl (.inl rfl)) (.cons rfl (rc_same rfl (.inl rfl)) (.cons rfl (rc_same rfl (.inl rfl)) (.cons rfl (rc_same rfl (.inl rfl)) (.cons rfl (rc_same rfl (.inl rfl)) (.cons rfl (rc_eq (congrArg AV.bool (mem_succ_t hz h147)) rfl) (.cons rfl (rc_same rfl (.inl rfl)) (.cons rfl (rc_same rfl (.inl rfl)) (.cons rfl (rc_same rfl (.inl rfl)) (.nil)))))))))))))))) (.keep (rfl) rfl (.nil)) (fun i h => by cases h)⟩
              | exact ⟨e + 1, by omega, by omega, weak_to (.cons rfl (rc_same rfl (.inl rfl)) (.cons rfl (rc_same rfl (.inl rfl)) (.cons rfl (rc_same rfl (.inl rfl)) (.cons rfl (rc_same rfl (.inl rfl)) (.cons rfl (rc_same rfl (.inl rfl)) (.cons rfl (rc_same rfl (.inl rfl)) (.cons rfl (rc_same rfl (.inl rfl)) (.cons rfl (rc_same rfl (.inl rfl)) (.cons rfl (rc_same rfl (.inl rfl)) (.cons rfl (rc_same rfl (.inl rfl)) (.cons rfl (rc_same rfl (.inl rfl)) (.cons rfl (rc_eq (congrArg AV.bool (mem_succ hz h147)) rfl) (.cons rfl (rc_same rfl (.inl rfl)) (.cons rfl (rc_same rfl (.inl rfl)) (.cons rfl (rc_same rfl (.inl rfl)) (.nil)))))))))))))))) (.keep (rfl) rfl (.nil)) (fun i h => by cases h)⟩
          · skip
            refine rs_mv rfl rfl ?_
            refine rs_skip rfl ?_
            refine rs_skip rfl ?_
            refine rs_skip rfl ?_
            refine rs_pick rfl rfl rfl ?_
            refine rs_mv rfl rfl ?_
            refine rs_nil fun _ => ?_
            refine in_n ?_
            refine th_n ?_
            refine aw_reg ?_
            first | refine rs_add rfl rfl rfl (by omega) ?_ | refine rs_addw rfl rfl rfl rfl ?_
            refine rs_mv rfl rfl ?_
            refine rs_nil fun _ => ?_
            refine th_n ?_
            first
              | exact ⟨e + 1, by omega, by omega, weak_to (.cons rfl (rc_same rfl (.inl rfl)) (.cons rfl (rc_same rfl (.inl rfl)) (.cons rfl (rc_same rfl (.inl rfl)) (.cons rfl (rc_same rfl (.inl rfl)) (.cons rfl (rc_same rfl (.inl rfl)) (.cons rfl (rc_same rfl (.inl rfl)) (.cons rfl (rc_same rfl (.inl rfl)) (.cons rfl (rc_same rfl (.inl rfl)) (.cons rfl (rc_same rfl (.inl rfl)) (.cons rfl (rc_same rfl (.inl rfl)) (.cons rfl (rc_same rfl (.inl rfl)) (.cons rfl (rc_eq (congrArg AV.bool (mem_succ_t hz h147)) rfl) (.cons rfl (rc_same rfl (.inl rfl)) (.cons rfl (rc_same rfl (.inl rfl)) (.cons rfl (rc_same rfl (.inl rfl)) (.nil)))))))))))))))) (.keep (rfl) rfl (.nil)) (fun i h => by cases h)⟩
              | exact ⟨e + 1, by omega, by omega, weak_to (.cons rfl (rc_same rfl (.inl rfl)) (.cons rfl (rc_same rfl (.inl rfl)) (.cons rfl (rc_same rfl (.inl rfl)) (.cons rfl (rc_same rfl (.inl rfl)) (.cons rfl (rc_same rfl (.inl rfl)) (.cons rfl (rc_same rfl (.inl rfl)) (.cons rfl (rc_same rfl (.inl rfl)) (.cons rfl (rc_same rfl (.inl rfl)) (.cons rfl (rc_same rfl (.inl rfl)) (.cons rfl (rc_same rfl (.inl rfl)) (.cons rfl (rc_same rfl (.inl rfl)) (.cons rfl (rc_eq (congrArg AV.bool (mem_succ hz h147)) rfl) (.cons rfl (rc_same rfl (.inl rfl)) (.cons rfl (rc_same rfl (.inl rfl)) (.cons rfl (rc_same rfl (.inl rfl)) (.nil)))))))))))))))) (.keep (rfl) rfl (.nil)) (fun i h => by cases h)⟩
              | exact ⟨e + 1, by omega, by omega, weak_to (.cons rfl (rc_same rfl (.inl rfl)) (.cons rfl (rc_same rfl (.inl rfl)) (.cons rfl (rc_same rfl (.inl rfl)) (.cons rfl (rc_same rfl (.inl rfl)) (.cons rfl (rc_same rfl (.inl rfl)) (.cons rfl (rc_same rfl (.inl rfl)) (.cons rfl (rc_same rfl (.inl rfl)) (.cons rfl (rc_same rfl (.inl rfl)) (.cons rfl (rc_same rfl (.inl rfl)) (.cons rfl (rc_same rfl (.inl rfl)) (.cons rfl (rc_same rfl (.inl rfl)) (.cons rfl (rc_eq (congrArg AV.bool (mem_succ_t hz h147)) rfl) (.cons rfl (rc_same rfl (.inl rfl)) (.cons rfl (rc_same rfl (.inl rfl)) (.cons rfl (rc_same rfl (.inl rfl)) (.nil)))))))))))))))) (.keep (rfl) rfl (.nil)) (fun i h => by cases h)⟩
              | exact ⟨e + 1, by omega, by omega, weak_to (.cons rfl (rc_same rfl (.inl rfl)) (.cons rfl (rc_same rfl (.inl rfl)) (.cons rfl (rc_same rfl (.inl rfl)) (.cons rfl (rc_same rfl (.inl rfl)) (.cons rfl (rc_same rfl (.inl rfl)) (.cons rfl (rc_same rfl (.inl rfl)) (.cons rfl (rc_same rfl (.inl rfl)) (.cons rfl (rc_same rfl (.inl rfl)) (.cons rfl (rc_same rfl (.inl rfl)) (.cons rfl (rc_same rfl (.inl rfl)) (.cons rfl (rc_same rfl (.inl rfl)) (.cons rfl (rc_eq (congrArg AV.bool (mem_succ hz h147)) rfl) (.cons rfl (rc_same rfl (.inl rfl)) (.cons rfl (rc_same rfl (.inl rfl)) (.cons rfl (rc_same rfl (.inl rfl)) (.nil)))))))))))))))) (.keep (rfl) rfl (.nil)) (fun i h => by cases h)⟩
        · first | replace h144 := of_decide_eq_false h144 | skip
          refine aw_exit ?_
          refine th_e ?_
          refine th_e ?_
          refine in_hit ?_
          refine th_n ?_
          refine aw_seq ?_
          first
            | refine aw_weak (F0 := [(7, .bool true), (9, .rs 3 ((pathS m).map cV)), (11, iv i), (12, iv j), (16, .rs 6 ((knS m i j).map cP)), (127, .rs 6 ((knS m i j).map cP)), (128, iv ((knS m i j).length : Int)), (129, iv (((k) : Nat) : Int)), (133, .agg (cP p)), (134, iv ((0 : Nat) : Int)), (26, .bool true)]) (H0 := []) (weak_to (.cons rfl (rc_same rfl (.inl rfl)) (.cons rfl (rc_same rfl (.inl rfl)) (.cons rfl (rc_same rfl (.inl rfl)) (.cons rfl (rc_same rfl (.inl rfl)) (.cons rfl (rc_same rfl (.inl rfl)) (.cons rfl (rc_same rfl (.inl rfl)) (.cons rfl (rc_same rfl (.inl rfl)) (.cons rfl (rc_same rfl (.inl rfl)) (.cons rfl (rc_same rfl (.inl rfl)) (.cons rfl (rc_same rfl (.inl rfl)) (.cons rfl (rc_eq (congrArg AV.bool (decide_eq_true (by rw [show e = (btwS m i j).length by omega, List.take_length]; exact hv))) rfl) (.nil)))))))))))) (.nil) (fun i h => by cases h)) ?_
            | refine aw_weak (F0 := [(7, .bool true), (9, .rs 3 ((pathS m).map cV)), (11, iv i), (12, iv j), (16, .rs 6 ((knS m i j).map cP)), (127, .rs 6 ((knS m i j).map cP)), (128, iv ((knS m i j).length : Int)), (129, iv (((k) : Nat) : Int)), (133, .agg (cP p)), (134, iv ((1 : Nat) : Int)), (26, .bool true)]) (H0 := []) (weak_to (.cons rfl (rc_same rfl (.inl rfl)) (.cons rfl (rc_same rfl (.inl rfl)) (.cons rfl (rc_same rfl (.inl rfl)) (.cons rfl (rc_same rfl (.inl rfl)) (.cons rfl (rc_same rfl (.inl rfl)) (.cons rfl (rc_same rfl (.inl rfl)) (.cons rfl (rc_same rfl (.inl rfl)) (.cons rfl (rc_same rfl (.inl rfl)) (.cons rfl (rc_same rfl (.inl rfl)) (.cons rfl (rc_same rfl (.inl rfl)) (.cons rfl (rc_eq (congrArg AV.bool (decide_eq_true (by rw [show e = (btwS m i j).length by omega, List.take_length]; exact hv))) rfl) (.nil)))))))))))) (.nil) (fun i h => by cases h)) ?_
          refine aw_reg ?_
          refine rs_mv rfl rfl ?_
          refine rs_not rfl rfl ?_
          refine rs_nil fun _ => ?_
          refine th_n ?_
          refine aw_cond rfl (fun h => by cases h) (fun _ => ?_)
          refine aw_skip ?_
          refine in_n ?_
          refine th_n ?_
          refine aw_reg ?_
          first | refine rs_add rfl rfl rfl (by omega) ?_ | refine rs_addw rfl rfl rfl rfl ?_
          refine rs_mv rfl rfl ?_
          refine rs_nil fun _ => ?_
          refine th_n ?_
          first
            | exact ⟨0 + 1, by omega, by omega, weak_to (.cons rfl (rc_same rfl (.inl rfl)) (.cons rfl (rc_same rfl (.inl rfl)) (.cons rfl (rc_same rfl (.inl rfl)) (.cons rfl (rc_same rfl (.inl rfl)) (.cons rfl (rc_same rfl (.inl rfl)) (.cons rfl (rc_same rfl (.inl rfl)) (.cons rfl (rc_same rfl (.inl rfl)) (.cons rfl (rc_same rfl (.inl rfl)) (.cons rfl (rc_same rfl (.inl rfl)) (.cons rfl (rc_same rfl (.inl rfl)) (.nil))))))))))) (.nil) (fun i h => by cases h)⟩
            | exact ⟨1 + 1, by omega, by omega, weak_to (.cons rfl (rc_same rfl (.inl rfl)) (.cons rfl (rc_same rfl (.inl rfl)) (.cons rfl (rc_same rfl (.inl rfl)) (.cons rfl (rc_same rfl (.inl rfl)) (.cons rfl (rc_same rfl (.inl rfl)) (.cons rfl (rc_same rfl (.inl rfl)) (.cons rfl (rc_same rfl (.inl rfl)) (.cons rfl (rc_same rfl (.inl rfl)) (.cons rfl (rc_same rfl (.inl rfl)) (.cons rfl (rc_same rfl (.inl rfl)) (.nil))))))))))) (.nil) (fun i h => by cases h)⟩
      · obtain ⟨v, hv0⟩ : ∃ v, v = p.2 := ⟨_, rfl⟩
        have hv : v ∈ btwS m i j := by rw [hv0]; exact (hkn2 p hpm).2
        refine rs_ixvala rfl rfl rfl (by decide) (by decide) (Nat.le_of_ble_eq_true rfl) rfl ?_
        refine rs_alloc rfl rfl rfl ?_
        refine rs_st rfl rfl rfl rfl rfl rfl rfl (Nat.le_of_ble_eq_true rfl) rfl rfl ?_
        refine rs_nil fun _ => ?_
        refine th_n ?_
        refine aw_seq ?_
        refine aw_reg ?_
        refine rs_mv rfl rfl ?_
        refine rs_nil fun _ => ?_
        refine th_n ?_
        refine aw_seq ?_
        refine aw_seq ?_
        refine aw_reg ?_
        refine rs_mv rfl rfl ?_
        refine rs_mv rfl rfl ?_
        refine rs_mv rfl rfl ?_
        first | refine rs_add rfl rfl rfl (by omega) ?_ | refine rs_addw rfl rfl rfl rfl ?_
        refine rs_slc_r rfl rfl rfl rfl rfl (by omega) (by omega) (by simp; omega) (btw_def hb) ?_
        first | refine rs_len_m rfl rfl ?_ | refine rs_len_s rfl rfl ?_ | refine rs_len_n rfl rfl ?_ | refine rs_len_r rfl rfl rfl ?_
        refine rs_mv rfl rfl ?_
        refine rs_nil fun _ => ?_
        refine th_n ?_
        refine aw_block ?_
        first
          | refine aw_fam (α := Nat) (fun e => (btwS m i j).length - e) (fun e => [(7, .bool true), (9, .rs 3 ((pathS m).map cV)), (11, iv i), (12, iv j), (16, .rs 6 ((knS m i j).map cP)), (127, .rs 6 ((knS m i j).map cP)), (128, iv ((knS m i j).length : Int)), (129, iv (((k) : Nat) : Int)), (133, .agg (cP p)), (134, iv ((0 : Nat) : Int)), (25, .ptr 25 0 0), (26, .bool (decide (v ∈ (btwS m i j).take (e)))), (141, .rs 3 ((btwS m i j).map cV)), (142, iv ((btwS m i j).length : Int)), (143, iv (((e) : Nat) : Int))]) (fun e => [(25, .cells 26 3 [cV v] true)]) (fun e => e ≤ (btwS m i j).length) 0 (by omega)
              (weak_to (.cons rfl (rc_same rfl (.inl rfl)) (.cons rfl (rc_same rfl (.inl rfl)) (.cons rfl (rc_same rfl (.inl rfl)) (.cons rfl (rc_same rfl (.inl rfl)) (.cons rfl (rc_same rfl (.inl rfl)) (.cons rfl (rc_same rfl (.inl rfl)) (.cons rfl (rc_same rfl (.inl rfl)) (.cons rfl (rc_same rfl (.inl rfl)) (.cons rfl (rc_same rfl (.inl rfl)) (.cons rfl (rc_same rfl (.inl rfl)) (.cons rfl (rc_same rfl (.inl rfl)) (.cons rfl (rc_eq (by simp) rfl) (.cons rfl (rc_same rfl (.inl rfl)) (.cons rfl (rc_same rfl (.inl rfl)) (.cons rfl (rc_same rfl (.inl rfl)) (.nil)))))))))))))))) (.keep ((by (rw [hv0]) <;> rfl)) rfl (.nil)) (fun i h => by cases h)) ?_
          | refine aw_fam (α := Nat) (fun e => (btwS m i j).length - e) (fun e => [(7, .bool true), (9, .rs 3 ((pathS m).map cV)), (11, iv i), (12, iv j), (16, .rs 6 ((knS m i j).map cP)), (127, .rs 6 ((knS m i j).map cP)), (128, iv ((knS m i j).length : Int)), (129, iv (((k) : Nat) : Int)), (133, .agg (cP p)), (134, iv ((1 : Nat) : Int)), (25, .ptr 25 0 0), (26, .bool (decide (v ∈ (btwS m i j).take (e)))), (141, .rs 3 ((btwS m i j).map cV)), (142, iv ((btwS m i j).length : Int)), (143, iv (((e) : Nat) : Int))]) (fun e => [(25, .cells 26 3 [cV v] true)]) (fun e => e ≤ (btwS m i j).length) 0 (by omega)
              (weak_to (.cons rfl (rc_same rfl (.inl rfl)) (.cons rfl (rc_same rfl (.inl rfl)) (.cons rfl (rc_same rfl (.inl rfl)) (.cons rfl (rc_same rfl (.inl rfl)) (.cons rfl (rc_same rfl (.inl rfl)) (.cons rfl (rc_same rfl (.inl rfl)) (.cons rfl (rc_same rfl (.inl rfl)) (.cons rfl (rc_same rfl (.inl rfl)) (.cons rfl (rc_same rfl (.inl rfl)) (.cons rfl (rc_same rfl (.inl rfl)) (.cons rfl (rc_same rfl (.inl rfl)) (.cons rfl (rc_eq (by simp) rfl) (.cons rfl (rc_same rfl (.inl rfl)) (.cons rfl (rc_same rfl (.inl rfl)) (.cons rfl (rc_same rfl (.inl rfl)) (.nil)))))))))))))))) (.keep ((by (rw [hv0]) <;> rfl)) rfl (.nil)) (fun i h => by cases h)) ?_
        intro e he
        refine aw_seq ?_
        refine aw_reg ?_
        refine rs_lss rfl rfl rfl ?_
        refine rs_nil fun _ => ?_
        refine th_n ?_
        refine aw_seq ?_
        refine aw_cond rfl (fun h144 => ?_) (fun h144 => ?_)
        · first | replace h144 := of_decide_eq_true h144 | skip
          refine aw_skip ?_
          refine th_n ?_
          refine aw_seq ?_
          refine aw_block ?_
          refine aw_seq ?_
          refine aw_reg ?_
          obtain ⟨z, hz, _⟩ := at_some (L := btwS m i j) (k := e) (by omega)
          refine rs_ix_g rfl rfl rfl (by omega) hz ?_
          refine rs_ld_ra rfl rfl (Nat.le_of_ble_eq_true rfl) rfl ?_
          refine rs_alloc rfl rfl rfl ?_
          refine rs_st rfl rfl rfl rfl rfl rfl rfl (Nat.le_of_ble_eq_true rfl) rfl rfl ?_
          refine rs_nil fun _ => ?_
          refine th_n ?_
          refine aw_reg ?_
          refine rs_mv rfl rfl ?_
          cases h147 : decide (v ∈ (btwS m i j).take e)
          · skip
            refine rs_mv rfl rfl ?_
            first | refine rs_ld_pa rfl rfl rfl rfl (Nat.le_of_ble_eq_true rfl) rfl ?_ | refine rs_ld_ra rfl rfl (Nat.le_of_ble_eq_true rfl) rfl ?_ | refine rs_ld_ma rfl rfl rfl (by omega) (Nat.le_of_ble_eq_true rfl) rfl ?_
            first | refine rs_ld_pa rfl rfl rfl rfl (Nat.le_of_ble_eq_true rfl) rfl ?_ | refine rs_ld_ra rfl rfl (Nat.le_of_ble_eq_true rfl) rfl ?_ | refine rs_ld_ma rfl rfl rfl (by omega) (Nat.le_of_ble_eq_true rfl) rfl ?_
            refine rs_aeqv (u := z) (v := v) rfl rfl rfl ?_
            refine rs_pick rfl rfl rfl ?_
            refine rs_mv rfl rfl ?_
            refine rs_nil fun _ => ?_
            refine in_n ?_
            refine th_n ?_
            refine aw_reg ?_
            first | refine rs_add rfl rfl rfl (by omega) ?_ | refine rs_addw rfl rfl rfl rfl ?_
            refine rs_mv rfl rfl ?_
            refine rs_nil fun _ => ?_
            refine th_n ?_
            first
              | exact ⟨e + 1, by omega, by omega, weak_to (.cons rfl (rc_same rfl (.inl rfl)) (.cons rfl (rc_same rfl (.inl rfl)) (.cons rfl (rc_same rfl (.inl rfl)) (.cons rfl (rc_same rfl (.inl rfl)) (.cons rfl (rc_same rfl (.inl rfl)) (.cons rfl (rc_same rfl (.inl rfl)) (.cons rfl (rc_same rfl (.inl rfl)) (.cons rfl (rc_same rfl (.inl rfl)) (.cons rfl (rc_same rfl (.inl rfl)) (.cons rfl (rc_same rfl (.inl rfl)) (.cons rfl (rc_same rfl (.inl rfl)) (.cons rfl (rc_eq (congrArg AV.bool (mem_succ_t hz h147)) rfl) (.cons rfl (rc_same rfl (.inl rfl)) (.cons rfl (rc_same rfl (.inl rfl)) (.cons rfl (rc_same rfl (.inl rfl)) (.nil)))))))))))))))) (.keep (rfl) rfl (.nil)) (fun i h => by cases h)⟩
              | exact ⟨e + 1, by omega, by omega, weak_to (.cons rfl (rc_same rfl (.inl rfl)) (.cons rfl (rc_same rfl (.inl rfl)) (.cons rfl (rc_same rfl (.inl rfl)) (.cons rfl (rc_same rfl (.inl rfl)) (.cons rfl (rc_same rfl (.inl rfl)) (.cons rfl (rc_same rfl (.inl rfl)) (.cons rfl (rc_same rfl (.inl rfl)) (.cons rfl (rc_same rfl (.inl rfl)) (.cons rfl (rc_same rfl (.inl rfl)) (.cons rfl (rc_same rfl (.inl rfl)) (.cons rfl (rc_same rfl (.inl rfl)) (.cons rfl (rc_eq (congrArg AV.bool (mem_succ hz h147)) rfl) (.cons rfl (rc_same rfl (.inl rfl)) (.cons rfl (rc_same rfl (.inl rfl)) (.cons rfl (rc_same rfl (.inl rfl)) (.nil)))))))))))))))) (.keep (rfl) rfl (.nil)) (fun i h => by cases h)⟩
              | exact ⟨e + 1, by omega, by omega, weak_to (.cons rfl (rc_same rfl (.inl rfl)) (.cons rfl (rc_same rfl (.inl rfl)) (.cons rfl (rc_same rfl (.inl rfl)) (.cons rfl (rc_same rfl (.inl rfl)) (.cons rfl (rc_same rfl (.inl rfl)) (.cons rfl (rc_same rfl (.inl rfl)) (.cons rfl (rc_same rfl (.inl rfl)) (.cons rfl (rc_same rfl (.inl rfl)) (.cons rfl (rc_same rfl (.inl rfl)) (.cons rfl (rc_same rfl (.inl rfl)) (.cons rfl (rc_same rfl (.inl rfl)) (.cons rfl (rc_eq (congrArg AV.bool (mem_succ_t hz h147)) rfl) (.cons rfl (rc_same rfl (.inl rfl)) (.cons rfl (rc_same rfl (.inl rfl)) (.cons rfl (rc_same rfl (.inl rfl)) (.nil)))))))))))))))) (.keep (rfl) rfl (.nil)) (fun i h => by cases h)⟩
              | exact ⟨e + 1, by omega, by omega, weak_to (.cons rfl (rc_same rfl (.inl rfl)) (.cons rfl (rc_same rfl (.inl rfl)) (.cons rfl (rc_same rfl (.inl rfl)) (.cons rfl (rc_same rfl (.inl rfl)) (.cons rfl (rc_same rfl (.inl rfl)) (.cons rfl (rc_same rfl (.inl rfl)) (.cons rfl (rc_same rfl (.inl rfl)) (.cons rfl (rc_same rfl (.inl rfl)) (.cons rfl (rc_same rfl (.inl rfl)) (.cons rfl (rc_same rfl (.inl rfl)) (.cons rfl (rc_same rfl (.inl rfl)) (.cons rfl (rc_eq (congrArg AV.bool (mem_succ hz h147)) rfl) (.cons rfl (rc_same rfl (.inl rfl)) (.cons rfl (rc_same rfl (.inl rfl)) (.cons rfl (rc_same rfl (.inl rfl)) (.nil)))))))))))))))) (.keep (rfl) rfl (.nil)) (fun i h => by cases h)⟩
          · skip
            refine rs_mv rfl rfl ?_
            refine rs_skip rfl ?_
            refine rs_skip rfl ?_
            refine rs_skip rfl ?_
            refine rs_pick rfl rfl rfl ?_
            refine rs_mv rfl rfl ?_
            refine rs_nil fun _ => ?_
            refine in_n ?_
            refine th_n ?_
            refine aw_reg ?_
            first | refine rs_add rfl rfl rfl (by omega) ?_ | refine rs_addw rfl rfl rfl rfl ?_
            refine rs_mv rfl rfl ?_
            refine rs_nil fun _ => ?_
            refine th_n ?_
            first
              | exact ⟨e + 1, by omega, by omega, weak_to (.cons rfl (rc_same rfl (.inl rfl)) (.cons rfl (rc_same rfl (.inl rfl)) (.cons rfl (rc_same rfl (.inl rfl)) (.cons rfl (rc_same rfl (.inl rfl)) (.cons rfl (rc_same rfl (.inl rfl)) (.cons rfl (rc_same rfl (.inl rfl)) (.cons rfl (rc_same rfl (.inl rfl)) (.cons rfl (rc_same rfl (.inl rfl)) (.cons rfl (rc_same rfl (.inl rfl)) (.cons rfl (rc_same rfl (.inl rfl)) (.cons rfl (rc_same rfl (.inl rfl)) (.cons rfl (rc_eq (congrArg AV.bool (mem_succ_t hz h147)) rfl) (.cons rfl (rc_same rfl (.inl rfl)) (.cons rfl (rc_same rfl (.inl rfl)) (.cons rfl (rc_same rfl (.inl rfl)) (.nil)))))))))))))))) (.keep (rfl) rfl (.nil)) (fun i h => by cases h)⟩
              | exact ⟨e + 1, by omega, by omega, weak_to (.cons rfl (rc_same rfl (.inl rfl)) (.cons rfl (rc_same rfl (.inl rfl)) (.cons rfl (rc_same rfl (.inl rfl)) (.cons rfl (rc_same rfl (.inl rfl)) (.cons rfl (rc_same rfl (.inl rfl)) (.cons rfl (rc_same rfl (.inl rfl)) (.cons rfl (rc_same rfl (.inl rfl)) (.cons rfl (rc_same rfl (.inl rfl)) (.cons rfl (rc_same rfl (.inl rfl)) (.cons rfl (rc_same rfl (.inl rfl)) (.cons rfl (rc_same rfl (.inl rfl)) (.cons rfl (rc_eq (congrArg AV.bool (mem_succ hz h147)) rfl) (.cons rfl (rc_same rfl (.inl rfl)) (.cons rfl (rc_same rfl (.inl rfl)) (.cons rfl (rc_same rfl (.inl rfl)) (.nil)))))))))))))))) (.keep (rfl) rfl (.nil)) (fun i h => by cases h)⟩
              | exact ⟨e + 1, by omega, by omega, weak_to (.cons rfl (rc_same rfl (.inl rfl)) (.cons rfl (rc_same rfl (.inl rfl)) (.cons rfl (rc_same rfl (.inl rfl)) (.cons rfl (rc_same rfl (.inl rfl)) (.cons rfl (rc_same rfl (.inl rfl)) (.cons rfl (rc_same rfl (.inl rfl)) (.cons rfl (rc_same rfl (.inl rfl)) (.cons rfl (rc_same rfl (.inl rfl)) (.cons rfl (rc_same rfl (.inl rfl)) (.cons rfl (rc_same rfl (.inl rfl)) (.cons rfl (rc_same rfl (.inl rfl)) (.cons rfl (rc_eq (congrArg AV.bool (mem_succ_t hz h147)) rfl) (.cons rfl (rc_same rfl (.inl rfl)) (.cons rfl (rc_same rfl (.inl rfl)) (.cons rfl (rc_same rfl (.inl rfl)) (.nil)))))))))))))))) (.keep (rfl) rfl (.nil)) (fun i h => by cases h)⟩
              | exact ⟨e + 1, by omega, by omega, weak_to (.cons rfl (rc_same rfl (.inl rfl)) (.cons rfl (rc_same rfl (.inl rfl)) (.cons rfl (rc_same rfl (.inl rfl)) (.cons rfl (rc_same rfl (.inl rfl)) (.cons rfl (rc_same rfl (.inl rfl)) (.cons rfl (rc_same rfl (.inl rfl)) (.cons rfl (rc_same rfl (.inl rfl)) (.cons rfl (rc_same rfl (.inl rfl)) (.cons rfl (rc_same rfl (.inl rfl)) (.cons rfl (rc_same rfl (.inl rfl)) (.cons rfl (rc_same rfl (.inl rfl)) (.cons rfl (rc_eq (congrArg AV.bool (mem_succ hz h147)) rfl) (.cons rfl (rc_same rfl (.inl rfl)) (.cons rfl (rc_same rfl (.inl rfl)) (.cons rfl (rc_same rfl (.inl rfl)) (.nil)))))))))))))))) (.keep (rfl) rfl (.nil)) (fun i h => by cases h)⟩
        · first | replace h144 := of_decide_eq_false h144 | skip
          refine aw_exit ?_
          refine th_e ?_
          refine th_e ?_
          refine in_hit ?_
          refine th_n ?_
          refine aw_seq ?_
          first
            | refine aw_weak (F0 := [(7, .bool true), (9, .rs 3 ((pathS m).map cV)), (11, iv i), (12, iv j), (16, .rs 6 ((knS m i j).map cP)), (127, .rs 6 ((knS m i j).map cP)), (128, iv ((knS m i j).length : Int)), (129, iv (((k) : Nat) : Int)), (133, .agg (cP p)), (134, iv ((0 : Nat) : Int)), (26, .bool true)]) (H0 := []) (weak_to (.cons rfl (rc_same rfl (.inl rfl)) (.cons rfl (rc_same rfl (.inl rfl)) (.cons rfl (rc_same rfl (.inl rfl)) (.cons rfl (rc_same rfl (.inl rfl)) (.cons rfl (rc_same rfl (.inl rfl)) (.cons rfl (rc_same rfl (.inl rfl)) (.cons rfl (rc_same rfl (.inl rfl)) (.cons rfl (rc_same rfl (.inl rfl)) (.cons rfl (rc_same rfl (.inl rfl)) (.cons rfl (rc_same rfl (.inl rfl)) (.cons rfl (rc_eq (congrArg AV.bool (decide_eq_true (by rw [show e = (btwS m i j).length by omega, List.take_length]; exact hv))) rfl) (.nil)))))))))))) (.nil) (fun i h => by cases h)) ?_
            | refine aw_weak (F0 := [(7, .bool true), (9, .rs 3 ((pathS m).map cV)), (11, iv i), (12, iv j), (16, .rs 6 ((knS m i j).map cP)), (127, .rs 6 ((knS m i j).map cP)), (128, iv ((knS m i j).length : Int)), (129, iv (((k) : Nat) : Int)), (133, .agg (cP p)), (134, iv ((1 : Nat) : Int)), (26, .bool true)]) (H0 := []) (weak_to (.cons rfl (rc_same rfl (.inl rfl)) (.cons rfl (rc_same rfl (.inl rfl)) (.cons rfl (rc_same rfl (.inl rfl)) (.cons rfl (rc_same rfl (.inl rfl)) (.cons rfl (rc_same rfl (.inl rfl)) (.cons rfl (rc_same rfl (.inl rfl)) (.cons rfl (rc_same rfl (.inl rfl)) (.cons rfl (rc_same rfl (.inl rfl)) (.cons rfl (rc_same rfl (.inl rfl)) (.cons rfl (rc_same rfl (.inl rfl)) (.cons rfl (rc_eq (congrArg AV.bool (decide_eq_true (by rw [show e = (btwS m i j).length by omega, List.take_length]; exact hv))) rfl) (.nil)))))))))))) (.nil) (fun i h => by cases h)) ?_
          refine aw_reg ?_
          refine rs_mv rfl rfl ?_
          refine rs_not rfl rfl ?_
          refine rs_nil fun _ => ?_
          refine th_n ?_
          refine aw_cond rfl (fun h => by cases h) (fun _ => ?_)
          refine aw_skip ?_
          refine in_n ?_
          refine th_n ?_
          refine aw_reg ?_
          first | refine rs_add rfl rfl rfl (by omega) ?_ | refine rs_addw rfl rfl rfl rfl ?_
          refine rs_mv rfl rfl ?_
          refine rs_nil fun _ => ?_
          refine th_n ?_
          first
            | exact ⟨0 + 1, by omega, by omega, weak_to (.cons rfl (rc_same rfl (.inl rfl)) (.cons rfl (rc_same rfl (.inl rfl)) (.cons rfl (rc_same rfl (.inl rfl)) (.cons rfl (rc_same rfl (.inl rfl)) (.cons rfl (rc_same rfl (.inl rfl)) (.cons rfl (rc_same rfl (.inl rfl)) (.cons rfl (rc_same rfl (.inl rfl)) (.cons rfl (rc_same rfl (.inl rfl)) (.cons rfl (rc_same rfl (.inl rfl)) (.cons rfl (rc_same rfl (.inl rfl)) (.nil))))))))))) (.nil) (fun i h => by cases h)⟩
            | exact ⟨1 + 1, by omega, by omega, weak_to (.cons rfl (rc_same rfl (.inl rfl)) (.cons rfl (rc_same rfl (.inl rfl)) (.cons rfl (rc_same rfl (.inl rfl)) (.cons rfl (rc_same rfl (.inl rfl)) (.cons rfl (rc_same rfl (.inl rfl)) (.cons rfl (rc_same rfl (.inl rfl)) (.cons rfl (rc_same rfl (.inl rfl)) (.cons rfl (rc_same rfl (.inl rfl)) (.cons rfl (rc_same rfl (.inl rfl)) (.cons rfl (rc_same rfl (.inl rfl)) (.nil))))))))))) (.nil) (fun i h => by cases h)⟩
    · first | replace h135 := of_decide_eq_false h135 | skip
      refine aw_exit ?_
      refine th_e ?_
      refine th_e ?_
      refine in_hit ?_
      refine in_n ?_
      refine th_n ?_
      refine aw_reg ?_
      first | refine rs_add rfl rfl rfl (by omega) ?_ | refine rs_addw rfl rfl rfl rfl ?_
      refine rs_mv rfl rfl ?_
      refine rs_nil fun _ => ?_
      refine th_n ?_
      exact ⟨k + 1, by omega, by omega, weak_to (.cons rfl (rc_same rfl (.inl rfl)) (.cons rfl (rc_same rfl (.inl rfl)) (.cons rfl (rc_same rfl (.inl rfl)) (.cons rfl (rc_same rfl (.inl rfl)) (.cons rfl (rc_same rfl (.inl rfl)) (.cons rfl (rc_same rfl (.inl rfl)) (.cons rfl (rc_same rfl (.inl rfl)) (.cons rfl (rc_same rfl (.inl rfl)) (.nil))))))))) (.nil) (fun i h => by cases h)⟩
  · first | replace h130 := of_decide_eq_false h130 | skip
    refine aw_exit ?_
    refine th_e ?_
    refine th_e ?_
    refine in_hit ?_
    refine th_n ?_
    refine aw_seq ?_
    refine aw_draw hmix ?_
    refine rs_mv rfl rfl ?_
    refine rs_mv rfl rfl ?_
    refine rs_mv rfl rfl ?_
    refine rs_ix_g rfl rfl rfl (by omega) hpa ?_
    refine rs_ixarr_r rfl rfl rfl (by decide) (by decide) rfl ?_
    refine rs_ld_ra rfl rfl (Nat.le_of_ble_eq_true rfl) rfl ?_
    refine rs_mv rfl rfl ?_
    refine rs_mv rfl rfl ?_
    refine rs_ix_g rfl rfl rfl (by omega) (el_at (by omega) (by omega)) ?_
    refine rs_ld_ra rfl rfl (Nat.le_of_ble_eq_true rfl) rfl ?_
    refine rs_aeqv_t hpa1 rfl rfl rfl ?_
    refine rs_pick rfl rfl rfl ?_
    refine rs_mv rfl rfl ?_
    refine rs_mv rfl rfl ?_
    refine rs_mv rfl rfl ?_
    first | refine rs_len_m rfl rfl ?_ | refine rs_len_s rfl rfl ?_ | refine rs_len_n rfl rfl ?_ | refine rs_len_r rfl rfl rfl ?_
    first | refine rs_sub rfl rfl rfl (by omega) ?_ | refine rs_subw rfl rfl rfl rfl ?_
    refine rs_ix_g rfl rfl rfl (by omega) hpb ?_
    refine rs_ixarr_r rfl rfl rfl (by decide) (by decide) rfl ?_
    refine rs_ld_ra rfl rfl (Nat.le_of_ble_eq_true rfl) rfl ?_
    refine rs_mv rfl rfl ?_
    refine rs_mv rfl rfl ?_
    refine rs_ix_g rfl rfl rfl (by omega) (el_at (by omega) (by omega)) ?_
    refine rs_ld_ra rfl rfl (Nat.le_of_ble_eq_true rfl) rfl ?_
    refine rs_aeqv_t hpb1 rfl rfl rfl ?_
    refine rs_pick rfl rfl rfl ?_
    refine rs_mv rfl rfl ?_
    refine rs_nil ⟨by kernel_rfl, fun _ => ?_⟩
    refine th_n ?_
    refine aw_ret ?_
    exact ret_pure rfl rfl rfl (.inr rfl)

end Go.Proofs.Yteommcdafifckaa

/-! The arguments of the laws of move, as they are read. -/
namespace Go.Proofs.Yteommcdafifckaa
open Go.RowKit Go.WideShapes Go.ChangeShapes Go.ChangeAt
set_option maxRecDepth 100000

theorem own_knob : ownKnob Try.prog.godebug = none := by kernel_rfl
theorem laid_out : laidOutB Try.prog = true := by kernel_rfl

theorem rd_i {H : Type} (d : DataW H) (h : Gd (.int .i64) d) : ∃ n : Int, True ∧ avD (.int .i64) d = ci n := by
  obtain ⟨n, _, e⟩ := rd_int d h
  exact ⟨n, trivial, e⟩
theorem rd_u8 {H : Type} (d : DataW H) (h : Gd (.int .u8) d) : ∃ n : Int, (0 ≤ n ∧ n < 256) ∧ avD (.int .u8) d = cu8 n := by
  obtain ⟨n, hw, e⟩ := rd_int d h
  have := bounds_u8 hw
  exact ⟨n, by omega, e⟩
abbrev shV : Sh := .st [.int .i64, .int .i64, .int .i64]
abbrev shM : Sh := .st [.int .i64, shV, shV, shV, .int .i64]
theorem rd_vec {H : Type} (d : DataW H) (h : Gd shV d) : ∃ v : V3, True ∧ avD shV d = cV v := by
  obtain ⟨ps, g, e⟩ := rd_st d h
  obtain ⟨d0, r0, g0, g, e0⟩ := rd_cons ps g
  obtain ⟨d1, r1, g1, g, e1⟩ := rd_cons r0 g
  obtain ⟨d2, r2, g2, g, e2⟩ := rd_cons r1 g
  obtain ⟨n0, _, a0⟩ := rd_i d0 g0
  obtain ⟨n1, _, a1⟩ := rd_i d1 g1
  obtain ⟨n2, _, a2⟩ := rd_i d2 g2
  exact ⟨⟨n0, n1, n2⟩, trivial, by rw [e, e0, e1, e2, rd_nil r2 g, a0, a1, a2]; rfl⟩
theorem rd_mv {H : Type} (d : DataW H) (h : Gd shM d) : ∃ m : Mv, True ∧ argA shM d = aM m := by
  obtain ⟨ps, g, e⟩ := rd_st d h
  obtain ⟨d0, r0, g0, g, e0⟩ := rd_cons ps g
  obtain ⟨d1, r1, g1, g, e1⟩ := rd_cons r0 g
  obtain ⟨d2, r2, g2, g, e2⟩ := rd_cons r1 g
  obtain ⟨d3, r3, g3, g, e3⟩ := rd_cons r2 g
  obtain ⟨d4, r4, g4, g, e4⟩ := rd_cons r3 g
  obtain ⟨n0, _, a0⟩ := rd_i d0 g0
  obtain ⟨v1, _, a1⟩ := rd_vec d1 g1
  obtain ⟨v2, _, a2⟩ := rd_vec d2 g2
  obtain ⟨v3, _, a3⟩ := rd_vec d3 g3
  obtain ⟨n4, _, a4⟩ := rd_i d4 g4
  exact ⟨⟨n0, v1, v2, v3, n4⟩, trivial, by simp only [argA]; rw [e, e0, e1, e2, e3, e4, rd_nil r4 g, a0, a1, a2, a3, a4]; rfl⟩
theorem rd_q {H : Type} (d : DataW H) (h : Gd (.arr 2 (.arr 3 (.int .i64))) d) : ∃ a0 a1 a2 b0 b1 b2 : Int, argA (.arr 2 (.arr 3 (.int .i64))) d = .agg [iv a0, iv a1, iv a2, iv b0, iv b1, iv b2] := by
  obtain ⟨q, ⟨hq, hr⟩, e⟩ := rd_arr (fun L : List Int => L.length = 3) (fun L => L.flatMap ci) (fun d h => by
    obtain ⟨xs, ⟨h1, _⟩, e⟩ := rd_arr (fun _ => True) ci rd_i d h
    exact ⟨xs, h1, e⟩) d h
  match q, hq with
  | [x, y], _ =>
    match x, y, hr x (by simp), hr y (by simp) with
    | [a0, a1, a2], [b0, b1, b2], _, _ => exact ⟨a0, a1, a2, b0, b1, b2, by simp only [argA]; rw [e]; rfl⟩
end Go.Proofs.Yteommcdafifckaa
namespace Go.Proofs.Yteommcdafifckaa
open Go.RowKit Go.WideShapes Go.ChangeShapes Go.ChangeAt
set_option maxRecDepth 100000

abbrev shs8 : List Sh := [.sl 1 (.int .i64), .arr 2 (.int .u8), .arr 3 (.int .u8)]

theorem lifted8 (os : Os) (started : os.Started) (H : Type) (enc : TypeId × Value → H) :
    ReturnsInHanded {} Try.checked os 8 .any (Rows.moveOuterSpec.pre6 enc Try.prog Try.f8 Rows.moveOuterRow.domain false) (Rows.moveOuterSpec.post enc Try.prog Try.f8 false true false false) := by
  refine law_row (C := Try.checked) own_knob started (by kernel_rfl) Try.func8 laid_out rfl (tb := 4) rfl Try.underlying4 shs8 (by kernel_rfl) (fun ds h => ?_)
    (ChangeSpec.witness6 (enc := enc) (C := Try.checked) false ⟨#[], #[.slice none 0 0, .agg #[.int .u8 0, .int .u8 0], .agg #[.int .u8 0, .int .u8 0, .int .u8 0]], []⟩ 8 (by kernel_rfl) (by kernel_rfl) (by kernel_rfl) (by kernel_rfl)) fun ds hg => ⟨false, ?_⟩
  · match ds, h with
    | [_, _, _], _ => rfl
  · simp only [shs8, GdFs] at hg
    obtain ⟨d0, _, rfl, g0, d1, _, rfl, g1, d2, _, rfl, g2, rfl⟩ := hg
    obtain ⟨l, ⟨hl_l, hr_l⟩, e0⟩ := rd_sl _ ci rd_i d0 g0
    obtain ⟨q1, ⟨hq1, hr1⟩, e1⟩ := rd_arr _ cu8 rd_u8 d1 g1
    obtain ⟨q2, ⟨hq2, hr2⟩, e2⟩ := rd_arr _ cu8 rd_u8 d2 g2
    match q1, hq1, q2, hq2 with
    | [s0, s1], _, [y0, y1, y2], _ =>
      have e : argAs shs8 [d0, d1, d2] = [.rs 1 (l.map ci), .agg [.int .u8 s0, .int .u8 s1], .agg [.int .u8 y0, .int .u8 y1, .int .u8 y2]] := by
        simp only [argAs, shs8]
        simp only [argA]
        rw [e0, e1, e2]
        rfl
      rw [e]
      exact fc8 l (Nat.le_trans hl_l (by decide)) s0 s1 y0 y1 y2 (hr1 s0 (by simp)) (hr1 s1 (by simp)) (hr2 y0 (by simp)) (hr2 y1 (by simp)) (hr2 y2 (by simp))

theorem over8 : Rows.moveOuterRow.holds Try.pinned (OpenSpec.ofChange Rows.moveOuterSpec) :=
  OpenClaim.holds_of_wide 8 Try.f8 rfl rfl rfl rfl rfl rfl rfl ⟨rfl, rfl, rfl, rfl, rfl⟩ rfl rfl rfl rfl rfl (by kernel_rfl) Try.func8 (by kernel_rfl)
    (of_decide_eq_true (by kernel_rfl)) (by unfold Func.isWrapper; rw [if_neg (of_decide_eq_false (by kernel_rfl))]; exact ⟨rfl, rfl⟩)
    (fun os started H enc _ => lifted8 os started H enc)

theorem moveOuter_holds : Rows.MoveOuterSaid := over8
#print axioms moveOuter_holds
end Go.Proofs.Yteommcdafifckaa
