/-
  Parts of the proof: M0 M1 P0.
-/
import Derived.Test.YtigfcmcdjfmieaaK2
import Derived.Test.YtigfcmcdjfmieaaProg
set_option linter.unusedVariables false
set_option linter.unusedSimpArgs false

/-! Walks: M0. -/
namespace Go.Proofs.Ytigfcmcdjfmieaa
open Go.RowKit
set_option maxRecDepth 100000

theorem hmix : Try.prog.follows .mixedOrders = true := by kernel_rfl

section
variable {P : Program} {N : Nat} {Z : List Nat} {F : Fr} {H : Hp} {ml : List MOper} {K : List Fp → Fr → Hp → Prop} {d : Nat} {g : Option (Nat × Bool)} {pre : List Nat}
/-- A cell of a row of an own list. -/
theorem rs_ld_g {α : Type} {f : α → List AV} {xs : List α} {t a n o e z : Nat} {fl : Bool} {x : Arg} {v : AV} {y : α} (hg : gOK F g = true) (hx : aarg F x = some (.ptr a t o)) (ha : get H a = some (.cells e z (xs.map f) fl)) (hy : xs[t]? = some y) (hv : (f y)[o]? = some v)
    (h : RS P N ml ((d, v) :: F) H (fun fps => K (([a], []) :: fps))) : RS P N (⟨some d, .ld false n x, g, pre⟩ :: ml) F H K := rs_ld_p hg hx ha (el := f y) (by simp [hy]) hv h
theorem rs_ld_ga {α : Type} {f : α → List AV} {xs : List α} {t a n o e z : Nat} {fl : Bool} {x : Arg} {cs : List AV} {y : α} (hg : gOK F g = true) (hx : aarg F x = some (.ptr a t o)) (ha : get H a = some (.cells e z (xs.map f) fl)) (hy : xs[t]? = some y) (hn : o + n ≤ (f y).length) (hc : ((f y).drop o).take n = cs)
    (h : RS P N ml ((d, .agg cs) :: F) H (fun fps => K (([a], []) :: fps))) : RS P N (⟨some d, .ld true n x, g, pre⟩ :: ml) F H K := rs_ld_pa hg hx ha (el := f y) (by simp [hy]) hn hc h
/-- An element of a read-only list. -/
theorem rs_ix_g {α : Type} {f : α → List AV} {xs : List α} {z : Nat} {x i : Arg} {k : IntKind} {t : Int} {y : α} (hg : gOK F g = true) (hx : aarg F x = some (.rs z (xs.map f))) (hi : aarg F i = some (.int k t)) (h0 : 0 ≤ t) (hy : xs[t.toNat]? = some y)
    (h : RS P N ml ((d, .rp (f y)) :: F) H (fun fps => K (([], []) :: fps))) : RS P N (⟨some d, .ixsl z x i, g, pre⟩ :: ml) F H K :=
  rs_ix_r hg hx hi h0 (by have := (List.getElem?_eq_some_iff.1 hy).1; simp; omega) (by simp [hy]) h
/-- An own array. -/
theorem rs_ld_f {α : Type} {f : α → AV} {L : List α} {a o n e z k : Nat} {fl : Bool} {x : Arg} {y : α} (hg : gOK F g = true) (hx : aarg F x = some (.ptr a 0 o)) (ha : get H a = some (.cells e z [L.map f] fl)) (hk : o = k) (hy : L[k]? = some y)
    (h : RS P N ml ((d, f y) :: F) H (fun fps => K (([a], []) :: fps))) : RS P N (⟨some d, .ld false n x, g, pre⟩ :: ml) F H K :=
  rs_ld_p hg hx ha (el := L.map f) rfl (by rw [hk]; simp [hy]) h
end
theorem at_some {α : Type} {L : List α} {k : Nat} (h : k < L.length) : ∃ a, L[k]? = some a ∧ a ∈ L := ⟨L[k], List.getElem?_eq_getElem h, List.getElem_mem h⟩
theorem lt_of_at {α : Type} {L : List α} {k : Nat} {a : α} (h : L[k]? = some a) : k < L.length := (List.getElem?_eq_some_iff.1 h).1
theorem mem_of_at {α : Type} {L : List α} {k : Nat} {a : α} (h : L[k]? = some a) : a ∈ L := List.mem_of_getElem? h
theorem hv_slm {α : Type} {f : α → List AV} {xs : List α} {H Hs : Hp} {rd : List Nat} {i e z n : Nat} (hi : i ∈ rd) (hg : get H i = some (.cells e z (xs.map f) true)) (hn : xs.length = n) : HV H Hs rd false (.sl i 0 n) (.rs z (xs.map f)) :=
  hv_sl hi hg (by simp; omega) (by rw [List.drop_zero, List.take_of_length_le (by simp; omega)])
abbrev iv (n : Int) : AV := .int .i64 n
abbrev ints (xs : List Int) : AV := .rs 1 (xs.map ci)
abbrev cu8 (x : Int) : List AV := [.int .u8 x]

theorem tmod_range (n m : Int) (h : 1 ≤ m) : -m < n.tmod m ∧ n.tmod m < m := by
  have h1 := Int.tmod_lt_of_pos n (show (0 : Int) < m by omega)
  have h2 := Int.tmod_lt_of_pos (-n) (show (0 : Int) < m by omega)
  rw [Int.neg_tmod] at h2
  omega
theorem mod_eq (n m : Int) (h : 1 ≤ m) : (n.tmod m + m).tmod m = n % m := by
  have h1 := tmod_range n m h
  rw [Int.tmod_eq_emod_of_nonneg (by omega), Int.add_emod_right, Int.tmod_eq_emod]
  split
  · simp
  · rw [Int.sub_emod]; simp [Int.natAbs_of_nonneg (show 0 ≤ m by omega)]
def modS (n m : Int) : Int := if m < 1 then 0 else n % m
theorem modS_range (x n : Int) (h : 1 ≤ n) : 0 ≤ modS x n ∧ modS x n < n := by
  unfold modS
  rw [if_neg (by omega)]
  exact ⟨Int.emod_nonneg _ (by omega), Int.emod_lt_of_pos _ (by omega)⟩
/-- A draw of numbers: what comes next, and where it stands then. -/
def nextV (L : List Int) (k : Nat) (n : Int) : Int := match L[k]? with
  | some x => modS x n
  | none => 0
def nextA (L : List Int) (k : Nat) : Nat := if k < L.length then k + 1 else k
abbrev drawOb (e : Nat) (L : List Int) (k : Nat) : Ob := .cells e 2 [[ints L, .int .i64 (k : Int)]] true
theorem nextV_range (L : List Int) (k : Nat) (n : Int) (h : 1 ≤ n) : 0 ≤ nextV L k n ∧ nextV L k n < n := by
  unfold nextV
  split
  · exact modS_range _ n h
  · omega

/-- Vectors and moves. -/
structure V3 where
  (x y z : Int)
deriving DecidableEq
abbrev cV (v : V3) : List AV := [.int .i64 v.x, .int .i64 v.y, .int .i64 v.z]
abbrev aV (v : V3) : AV := .agg (cV v)
structure Mv where
  (kind : Int) (fr to co : V3) (feed : Int)
deriving DecidableEq
abbrev cM (m : Mv) : List AV := [iv m.kind, iv m.fr.x, iv m.fr.y, iv m.fr.z, iv m.to.x, iv m.to.y, iv m.to.z, iv m.co.x, iv m.co.y, iv m.co.z, iv m.feed]
abbrev aM (m : Mv) : AV := .agg (cM m)
theorem rs_aeqv {P : Program} {N : Nat} {F : Fr} {H : Hp} {ml : List MOper} {K : List Fp → Fr → Hp → Prop} {d : Nat} {g : Option (Nat × Bool)} {pre : List Nat} {neg : Bool} {x y : Arg} {u v : V3} (hg : gOK F g = true) (hx : aarg F x = some (aV u)) (hy : aarg F y = some (aV v))
    (h : RS P N ml ((d, .bool (neg != decide (u = v))) :: F) H (fun fps => K (([], []) :: fps))) : RS P N (⟨some d, .aeq neg 3 x y, g, pre⟩ :: ml) F H K :=
  rs_aeq [u.x, u.y, u.z] [v.x, v.y, v.z] hg hx hy rfl rfl rfl rfl (by congr 1; cases u; cases v; simp) h
abbrev W (n : Int) : Int := IntKind.i64.wrap n
theorem W_eq {n : Int} (h : -9223372036854775808 ≤ n ∧ n ≤ 9223372036854775807) : W n = n := wrap64_eq h
def addW (a b : V3) : V3 := ⟨W (a.x + b.x), W (a.y + b.y), W (a.z + b.z)⟩
def subW (a b : V3) : V3 := ⟨W (a.x - b.x), W (a.y - b.y), W (a.z - b.z)⟩
def dotW (a b : V3) : Int := W (W (W (a.x * b.x) + W (a.y * b.y)) + W (a.z * b.z))
def crossW (a b : V3) : V3 := ⟨W (W (a.y * b.z) - W (a.z * b.y)), W (W (a.z * b.x) - W (a.x * b.z)), W (W (a.x * b.y) - W (a.y * b.x))⟩
def plusW (a b : V3) (n : Int) : V3 := ⟨W (a.x + W (n * b.x)), W (a.y + W (n * b.y)), W (a.z + W (n * b.z))⟩
def add (a b : V3) : V3 := ⟨a.x + b.x, a.y + b.y, a.z + b.z⟩
def sub (a b : V3) : V3 := ⟨a.x - b.x, a.y - b.y, a.z - b.z⟩
def dot (a b : V3) : Int := a.x * b.x + a.y * b.y + a.z * b.z
def cross (a b : V3) : V3 := ⟨a.y * b.z - a.z * b.y, a.z * b.x - a.x * b.z, a.x * b.y - a.y * b.x⟩
def plus (a b : V3) (n : Int) : V3 := ⟨a.x + n * b.x, a.y + n * b.y, a.z + n * b.z⟩
structure Bd (n : Int) (v : V3) : Prop where
  x : -n ≤ v.x ∧ v.x ≤ n
  y : -n ≤ v.y ∧ v.y ≤ n
  z : -n ≤ v.z ∧ v.z ≤ n
theorem Bd.mono {n m : Int} {v : V3} (h : Bd n v) (hn : n ≤ m) : Bd m v := by
  have := h.x; have := h.y; have := h.z
  exact ⟨by omega, by omega, by omega⟩
theorem mulB {a b n m : Int} (ha : -n ≤ a ∧ a ≤ n) (hb : -m ≤ b ∧ b ≤ m) : -(n * m) ≤ a * b ∧ a * b ≤ n * m := by
  have h1 : a.natAbs ≤ n.toNat := by omega
  have h2 : b.natAbs ≤ m.toNat := by omega
  have h3 : (a * b).natAbs ≤ n.toNat * m.toNat := by rw [Int.natAbs_mul]; exact Nat.mul_le_mul h1 h2
  have h4 : ((n.toNat * m.toNat : Nat) : Int) = n * m := by rw [Int.natCast_mul, Int.toNat_of_nonneg (by omega), Int.toNat_of_nonneg (by omega)]
  omega
theorem addW_eq {a b : V3} (ha : Bd 1000000 a) (hb : Bd 1000000 b) : addW a b = add a b := by
  have := ha.x; have := ha.y; have := ha.z; have := hb.x; have := hb.y; have := hb.z
  unfold addW add; rw [W_eq (by omega), W_eq (by omega), W_eq (by omega)]
theorem subW_eq {a b : V3} (ha : Bd 1000000 a) (hb : Bd 1000000 b) : subW a b = sub a b := by
  have := ha.x; have := ha.y; have := ha.z; have := hb.x; have := hb.y; have := hb.z
  unfold subW sub; rw [W_eq (by omega), W_eq (by omega), W_eq (by omega)]
theorem dotW_eq {a b : V3} (ha : Bd 1000000 a) (hb : Bd 1000000 b) : dotW a b = dot a b := by
  have h1 := mulB ha.x hb.x; have h2 := mulB ha.y hb.y; have h3 := mulB ha.z hb.z
  unfold dotW dot; rw [W_eq (n := a.x * b.x) (by omega), W_eq (n := a.y * b.y) (by omega), W_eq (n := a.z * b.z) (by omega), W_eq (n := a.x * b.x + a.y * b.y) (by omega), W_eq (by omega)]
theorem crossW_eq {a b : V3} (ha : Bd 1000000 a) (hb : Bd 1000000 b) : crossW a b = cross a b := by
  have h1 := mulB ha.y hb.z; have h2 := mulB ha.z hb.y; have h3 := mulB ha.z hb.x; have h4 := mulB ha.x hb.z; have h5 := mulB ha.x hb.y; have h6 := mulB ha.y hb.x
  unfold crossW cross
  rw [W_eq (n := a.y * b.z) (by omega), W_eq (n := a.z * b.y) (by omega), W_eq (n := a.z * b.x) (by omega), W_eq (n := a.x * b.z) (by omega), W_eq (n := a.x * b.y) (by omega), W_eq (n := a.y * b.x) (by omega), W_eq (by omega), W_eq (by omega), W_eq (by omega)]
theorem plusW_eq {a b : V3} {n : Int} (ha : Bd 1000000 a) (hb : Bd 1000000 b) (hn : -1000000 ≤ n ∧ n ≤ 1000000) : plusW a b n = plus a b n := by
  have := ha.x; have := ha.y; have := ha.z
  have h1 := mulB hn hb.x; have h2 := mulB hn hb.y; have h3 := mulB hn hb.z
  unfold plusW plus; rw [W_eq (n := n * b.x) (by omega), W_eq (n := n * b.y) (by omega), W_eq (n := n * b.z) (by omega), W_eq (by omega), W_eq (by omega), W_eq (by omega)]
theorem Bd.add {a b : V3} {n m : Int} (ha : Bd n a) (hb : Bd m b) : Bd (n + m) (add a b) := by
  have := ha.x; have := ha.y; have := ha.z; have := hb.x; have := hb.y; have := hb.z
  exact ⟨by simp only [Ytigfcmcdjfmieaa.add]; omega, by simp only [Ytigfcmcdjfmieaa.add]; omega, by simp only [Ytigfcmcdjfmieaa.add]; omega⟩
theorem Bd.sub {a b : V3} {n m : Int} (ha : Bd n a) (hb : Bd m b) : Bd (n + m) (sub a b) := by
  have := ha.x; have := ha.y; have := ha.z; have := hb.x; have := hb.y; have := hb.z
  exact ⟨by simp only [Ytigfcmcdjfmieaa.sub]; omega, by simp only [Ytigfcmcdjfmieaa.sub]; omega, by simp only [Ytigfcmcdjfmieaa.sub]; omega⟩
theorem Bd.plus {a b : V3} {n m q : Int} {k : Int} (ha : Bd n a) (hb : Bd m b) (hk : -q ≤ k ∧ k ≤ q) : Bd (n + q * m) (plus a b k) := by
  have := ha.x; have := ha.y; have := ha.z
  have h1 := mulB hk hb.x; have h2 := mulB hk hb.y; have h3 := mulB hk hb.z
  exact ⟨by simp only [Ytigfcmcdjfmieaa.plus]; omega, by simp only [Ytigfcmcdjfmieaa.plus]; omega, by simp only [Ytigfcmcdjfmieaa.plus]; omega⟩

def gL (l : List Int) : Nat := l.foldl (fun g n => Nat.gcd g n.natAbs) 0
theorem gL_succ {l : List Int} {k : Nat} {x : Int} (h : l[k]? = some x) : gL (l.take (k + 1)) = Nat.gcd (gL (l.take k)) x.natAbs := by
  obtain ⟨hk, rfl⟩ := List.getElem?_eq_some_iff.1 h
  unfold gL
  rw [List.take_succ_eq_append_getElem hk, List.foldl_append]; rfl
def gS (v : V3) : Nat := gL [v.x, v.y, v.z]
def primV (v : V3) : V3 := if gS v = 0 then ⟨0, 0, 0⟩ else ⟨v.x.tdiv (gS v), v.y.tdiv (gS v), v.z.tdiv (gS v)⟩
theorem gcd_step (g n : Nat) : Nat.gcd n (g % n) = Nat.gcd g n := by rw [Nat.gcd_comm n, ← Nat.gcd_rec, Nat.gcd_comm]
theorem tmod_nat (g n : Nat) : ((g : Int)).tmod (n : Int) = ((g % n : Nat) : Int) := (Int.ofNat_tmod g n).symm
theorem tdiv_le (a : Int) (b : Nat) : (a.tdiv b).natAbs ≤ a.natAbs := by rw [Int.natAbs_tdiv]; exact Nat.div_le_self _ _
theorem tdivW {a : Int} {b : Nat} (h : -1000000 ≤ a ∧ a ≤ 1000000) : W (a.tdiv b) = a.tdiv b := W_eq (by have := tdiv_le a b; omega)
theorem abs_max (n : Int) : max n (-n) = (n.natAbs : Int) := by omega
def withinS (m : Int) (l : List Int) : Bool := l.all fun n => decide (-m ≤ n ∧ n ≤ m)
theorem within_t {m : Int} {l : List Int} (h : ∀ (k : Nat) (n : Int), l[k]? = some n → -m ≤ n ∧ n ≤ m) : withinS m l = true := List.all_eq_true.2 fun n hn => by
  obtain ⟨k, hk⟩ := List.getElem?_of_mem hn
  exact decide_eq_true (h k n hk)
theorem within_f {m : Int} {l : List Int} {k : Nat} {n : Int} (hk : l[k]? = some n) (h : n < -m ∨ m < n) : withinS m l = false := by
  cases e : withinS m l with
  | false => rfl
  | true => have := of_decide_eq_true (List.all_eq_true.1 e n (List.mem_of_getElem? hk)); omega
def inS (v : V3) : Bool := withinS 24 [v.x, v.y, v.z]
theorem in_bd {v : V3} (h : inS v = true) : Bd 24 v := by
  simp only [inS, withinS, List.all_cons, List.all_nil, Bool.and_eq_true, decide_eq_true_eq, and_true] at h
  exact ⟨h.1, h.2.1, h.2.2⟩
def lenS (v : V3) : Int := let x := max v.x (-v.x); let y := max v.y (-v.y); let z := max v.z (-v.z); if x + y + z = max x (max y z) then x + y + z else 0

def mc16 : MC := (.seq (.reg [⟨(some 4), (.mv (.c (.int .i64 0))), none, []⟩] false) (.seq (.seq (.reg [⟨(some 5), (.mv (.t 1)), none, []⟩, ⟨(some 6), (.bin .lss (.t 5) (.c (.int .i64 1))), none, [0]⟩] false) (.cond (.t 6) (.seq (.reg [⟨(some 4), (.mv (.c (.int .i64 0))), none, []⟩] false) .ret) .skip)) (.seq (.reg [⟨(some 7), (.mv (.t 0)), none, []⟩, ⟨(some 8), (.mv (.t 1)), none, []⟩, ⟨(some 9), (.bin .rem (.t 7) (.t 8)), none, [0, 1]⟩, ⟨(some 10), (.mv (.t 1)), none, []⟩, ⟨(some 11), (.bin .add (.t 9) (.t 10)), none, [2, 3]⟩, ⟨(some 12), (.mv (.t 1)), none, []⟩, ⟨(some 13), (.bin .rem (.t 11) (.t 12)), none, [4, 5]⟩, ⟨(some 4), (.mv (.t 13)), none, [6, 0, 1, 2, 3, 4, 5, 6]⟩] false) .ret)))
theorem mcOk16 : (match Try.f11.body with | some c => compC Try.prog 14 c | none => none) = some mc16 := by kernel_rfl

theorem fc16 (n m : Int) (hm : m ≤ 4611686018427387904) : FC Try.prog 11 [.int .i64 n, .int .i64 m] [] (.int .i64 (modS n m)) [] false := by
  refine fc_run (nt := 14) Try.func11 rfl rfl mcOk16 (Nat.le_of_ble_eq_true rfl) ?_
  delta mc16
  refine aw_seq ?_
  refine aw_reg ?_
  refine rs_mv rfl rfl ?_
  refine rs_nil fun _ => ?_
  refine th_n ?_
  refine aw_seq ?_
  refine aw_seq ?_
  refine aw_reg ?_
  refine rs_mv rfl rfl ?_
  refine rs_lss rfl rfl rfl ?_
  refine rs_nil fun _ => ?_
  refine th_n ?_
  refine aw_cond rfl (fun h6 => ?_) (fun h6 => ?_)
  · replace h6 := of_decide_eq_true h6
    have hr : modS n m = 0 := if_pos h6
    refine aw_seq ?_
    refine aw_reg ?_
    refine rs_mv rfl rfl ?_
    refine rs_nil fun _ => ?_
    refine th_n ?_
    refine aw_ret ?_
    refine th_r ?_
    exact ret_pure rfl (by rw [hr]; first | rfl | exact congrArg _ (mod_eq n m (by omega))) rfl (.inr rfl)
  · replace h6 := of_decide_eq_false h6
    have hr : modS n m = n % m := if_neg h6
    have ht := tmod_range n m (by omega)
    refine aw_skip ?_
    refine th_n ?_
    refine aw_seq ?_
    refine aw_reg ?_
    refine rs_mv rfl rfl ?_
    refine rs_mv rfl rfl ?_
    refine rs_rem rfl rfl rfl (by omega) rfl ?_
    refine rs_mv rfl rfl ?_
    refine rs_add rfl rfl rfl (by omega) ?_
    refine rs_mv rfl rfl ?_
    refine rs_rem rfl rfl rfl (by omega) rfl ?_
    refine rs_mv rfl rfl ?_
    refine rs_nil fun _ => ?_
    refine th_n ?_
    refine aw_ret ?_
    exact ret_pure rfl (by rw [hr]; first | rfl | exact congrArg _ (mod_eq n m (by omega))) rfl (.inr rfl)

def mc35 : MC := (.seq (.reg [⟨(some 4), (.mv (.c (.int .i64 0))), none, []⟩] false) (.seq (.seq (.reg [⟨(some 5), (.mv (.t 0)), none, []⟩, ⟨(some 6), (.nilc (.t 5)), none, [0]⟩, ⟨(some 7), (.fa 1 (.t 6)), none, [1]⟩, ⟨(some 8), (.ld false 1 (.t 7)), none, [2]⟩, ⟨(some 9), (.mv (.t 0)), none, []⟩, ⟨(some 10), (.nilc (.t 9)), none, [4]⟩, ⟨(some 11), (.fa 0 (.t 10)), none, [5]⟩, ⟨(some 12), (.ld false 1 (.t 11)), none, [6]⟩, ⟨(some 13), (.len (.t 12)), none, [7]⟩, ⟨(some 14), (.bin .geq (.t 8) (.t 13)), none, [3, 8]⟩] true) (.cond (.t 14) (.seq (.reg [⟨(some 4), (.mv (.c (.int .i64 0))), none, []⟩] false) .ret) .skip)) (.seq (.reg [⟨(some 15), (.mv (.t 0)), none, []⟩, ⟨(some 16), (.nilc (.t 15)), none, [0]⟩, ⟨(some 17), (.fa 1 (.t 16)), none, [1]⟩, ⟨(some 18), (.ld false 1 (.t 17)), none, [2]⟩, ⟨(some 19), (.bin .add (.t 18) (.c (.int .i64 1))), none, [3]⟩, ⟨(some 20), (.nilc (.t 15)), none, [0, 0, 1, 2, 3, 4]⟩, ⟨(some 21), (.fa 1 (.t 20)), none, [5, 0, 1, 2, 3, 4]⟩, ⟨none, (.st 1 (.t 21) (.t 19)), none, [6, 4, 0, 1, 2, 3, 4]⟩] false) (.seq (.reg [⟨(some 22), (.mv (.t 0)), none, []⟩, ⟨(some 23), (.nilc (.t 22)), none, [0]⟩, ⟨(some 24), (.fa 0 (.t 23)), none, [1]⟩, ⟨(some 25), (.ld false 1 (.t 24)), none, [2]⟩, ⟨(some 26), (.mv (.t 0)), none, []⟩, ⟨(some 27), (.nilc (.t 26)), none, [4]⟩, ⟨(some 28), (.fa 1 (.t 27)), none, [5]⟩, ⟨(some 29), (.ld false 1 (.t 28)), none, [6]⟩, ⟨(some 30), (.bin .sub (.t 29) (.c (.int .i64 1))), none, [7]⟩, ⟨(some 31), (.ixsl 1 (.t 25) (.t 30)), none, [3, 8]⟩, ⟨(some 32), (.ld false 1 (.t 31)), none, [9]⟩, ⟨(some 33), (.mv (.t 1)), none, []⟩, ⟨(some 34), (.call 11 [(.t 32), (.t 33)]), none, [10, 11]⟩, ⟨(some 4), (.mv (.t 34)), none, [12, 12, 0, 1, 2, 3, 4, 5, 6, 7, 8, 9, 10, 11, 12]⟩] true) .ret))))
theorem mcOk35 : (match Try.f69.body with | some c => compC Try.prog 35 c | none => none) = some mc35 := by kernel_rfl

theorem fc35_ (e : Nat) (L : List Int) (k : Nat) (n : Int) (hn : n ≤ 4611686018427387904) (hL : L.length ≤ 4611686018427387904) : FC Try.prog 69 [.ptr 1000 0 0, .int .i64 n] [(1000, drawOb e L k)] (.int .i64 (nextV L k n)) [(1000, drawOb e L (nextA L k))] true := by
  refine fc_run (nt := 35) Try.func69 rfl rfl mcOk35 (Nat.le_of_ble_eq_true rfl) ?_
  delta mc35
  refine aw_seq ?_
  refine aw_reg ?_
  refine rs_mv rfl rfl ?_
  refine rs_nil fun _ => ?_
  refine th_n ?_
  refine aw_seq ?_
  refine aw_seq ?_
  refine aw_draw hmix ?_
  refine rs_mv rfl rfl ?_
  refine rs_nilc_p rfl rfl ?_
  refine rs_fa_p rfl rfl ?_
  refine rs_ld_p rfl rfl rfl rfl rfl ?_
  refine rs_mv rfl rfl ?_
  refine rs_nilc_p rfl rfl ?_
  refine rs_fa_p rfl rfl ?_
  refine rs_ld_p rfl rfl rfl rfl rfl ?_
  refine rs_len_m rfl rfl ?_
  refine rs_geq rfl rfl rfl ?_
  refine rs_nil ⟨by kernel_rfl, fun _ => ?_⟩
  refine th_n ?_
  refine aw_cond rfl (fun h14 => ?_) (fun h14 => ?_)
  · replace h14 := of_decide_eq_true h14
    have e1 : nextV L k n = 0 := by unfold nextV; rw [List.getElem?_eq_none (by omega)]
    have e2 : nextA L k = k := if_neg (by omega)
    rw [e1, e2]
    refine aw_seq ?_
    refine aw_reg ?_
    refine rs_mv rfl rfl ?_
    refine rs_nil fun _ => ?_
    refine th_n ?_
    refine aw_ret ?_
    refine th_r ?_
    exact ret_own rfl (rc_same rfl (.inl rfl)) (.keep rfl rfl .nil) (.cons rfl rfl rfl .nil)
  · replace h14 := of_decide_eq_false h14
    have hk : k < L.length := by omega
    have e1 : nextV L k n = modS L[k] n := by unfold nextV; rw [List.getElem?_eq_getElem hk]
    have e2 : nextA L k = k + 1 := if_pos hk
    rw [e1, e2]
    refine aw_skip ?_
    refine th_n ?_
    refine aw_seq ?_
    refine aw_reg ?_
    refine rs_mv rfl rfl ?_
    refine rs_nilc_p rfl rfl ?_
    refine rs_fa_p rfl rfl ?_
    refine rs_ld_p rfl rfl rfl rfl rfl ?_
    refine rs_add rfl rfl rfl (by omega) ?_
    refine rs_nilc_p rfl rfl ?_
    refine rs_fa_p rfl rfl ?_
    refine rs_st rfl rfl rfl rfl rfl rfl rfl (Nat.le_of_ble_eq_true rfl) rfl rfl ?_
    refine rs_nil fun _ => ?_
    refine th_n ?_
    refine aw_seq ?_
    refine aw_draw hmix ?_
    refine rs_mv rfl rfl ?_
    refine rs_nilc_p rfl rfl ?_
    refine rs_fa_p rfl rfl ?_
    refine rs_ld_p rfl rfl rfl rfl rfl ?_
    refine rs_mv rfl rfl ?_
    refine rs_nilc_p rfl rfl ?_
    refine rs_fa_p rfl rfl ?_
    refine rs_ld_p rfl rfl rfl rfl rfl ?_
    refine rs_sub (b := 1) (a := ((k + 1 : Nat) : Int)) rfl rfl rfl (by omega) ?_
    refine rs_ix_m (t := k) rfl rfl (congrArg (fun x => some (AV.int .i64 x)) (by omega)) (by omega) ?_
    refine rs_ld_r rfl rfl rfl ?_
    refine rs_mv rfl rfl ?_
    refine rs_calln [] rfl rfl (fc16 L[k] n hn) (.cons (hv_same rfl) (.cons (hv_same rfl) (.nil))) rfl ?_
    refine rs_mv rfl rfl ?_
    refine rs_nil ⟨by kernel_rfl, fun _ => ?_⟩
    refine th_n ?_
    refine aw_ret ?_
    exact ret_own rfl (rc_same rfl (.inl rfl)) (.keep rfl rfl .nil) (.cons rfl rfl rfl .nil)

theorem fc35 (i e : Nat) (L : List Int) (k : Nat) (n : Int) (hn : n ≤ 4611686018427387904) (hL : L.length ≤ 4611686018427387904) : FC Try.prog 69 [.ptr i 0 0, .int .i64 n] [(i, drawOb e L k)] (.int .i64 (nextV L k n)) [(i, drawOb e L (nextA L k))] true :=
  fc_ren (swp 1000 i) (swp_swp _ _) (fc35_ e L k n hn hL) (.cons (.ptr (by simp [swp])) (.cons (.closed rfl) .nil)) (.cons (by simp [swp]) .flat .nil) (.closed rfl) (.cons (by simp [swp]) .flat .nil)
/-- A vector that a draw makes. -/
def vecV (L : List Int) (k : Nat) (n : Int) : V3 := ⟨nextV L k (2 * n + 1) - n, nextV L (nextA L k) (2 * n + 1) - n, nextV L (nextA L (nextA L k)) (2 * n + 1) - n⟩
def vecA (L : List Int) (k : Nat) : Nat := nextA L (nextA L (nextA L k))
theorem vecV_bd (L : List Int) (k : Nat) (n : Int) (h : 0 ≤ n) : Bd n (vecV L k n) := by
  have h1 := nextV_range L k (2 * n + 1) (by omega)
  have h2 := nextV_range L (nextA L k) (2 * n + 1) (by omega)
  have h3 := nextV_range L (nextA L (nextA L k)) (2 * n + 1) (by omega)
  exact ⟨by simp only [vecV]; omega, by simp only [vecV]; omega, by simp only [vecV]; omega⟩

def mc36 : MC := (.seq (.reg [⟨(some 4), (.alloc 80 3 [(.int .i64 0), (.int .i64 0), (.int .i64 0)]), none, []⟩] false) (.seq (.reg [⟨(some 8), (.mv (.t 0)), none, []⟩, ⟨(some 9), (.mv (.t 1)), none, []⟩, ⟨(some 10), (.bin .mul (.c (.int .i64 2)) (.t 9)), none, [1]⟩, ⟨(some 11), (.bin .add (.t 10) (.c (.int .i64 1))), none, [2]⟩, ⟨(some 12), (.call 69 [(.t 8), (.t 11)]), none, [0, 3]⟩, ⟨(some 13), (.mv (.t 1)), none, []⟩, ⟨(some 14), (.bin .sub (.t 12) (.t 13)), none, [4, 5]⟩, ⟨(some 5), (.mv (.t 14)), none, [6, 4, 0, 1, 2, 3, 4, 5, 6]⟩] false) (.seq (.reg [⟨(some 15), (.mv (.t 0)), none, []⟩, ⟨(some 16), (.mv (.t 1)), none, []⟩, ⟨(some 17), (.bin .mul (.c (.int .i64 2)) (.t 16)), none, [1]⟩, ⟨(some 18), (.bin .add (.t 17) (.c (.int .i64 1))), none, [2]⟩, ⟨(some 19), (.call 69 [(.t 15), (.t 18)]), none, [0, 3]⟩, ⟨(some 20), (.mv (.t 1)), none, []⟩, ⟨(some 21), (.bin .sub (.t 19) (.t 20)), none, [4, 5]⟩, ⟨(some 6), (.mv (.t 21)), none, [6, 4, 0, 1, 2, 3, 4, 5, 6]⟩] false) (.seq (.reg [⟨(some 22), (.mv (.t 0)), none, []⟩, ⟨(some 23), (.mv (.t 1)), none, []⟩, ⟨(some 24), (.bin .mul (.c (.int .i64 2)) (.t 23)), none, [1]⟩, ⟨(some 25), (.bin .add (.t 24) (.c (.int .i64 1))), none, [2]⟩, ⟨(some 26), (.call 69 [(.t 22), (.t 25)]), none, [0, 3]⟩, ⟨(some 27), (.mv (.t 1)), none, []⟩, ⟨(some 28), (.bin .sub (.t 26) (.t 27)), none, [4, 5]⟩, ⟨(some 7), (.mv (.t 28)), none, [6, 4, 0, 1, 2, 3, 4, 5, 6]⟩] false) (.seq (.reg [⟨(some 29), (.mv (.t 5)), none, []⟩, ⟨(some 30), (.mv (.t 6)), none, []⟩, ⟨(some 31), (.mv (.t 7)), none, []⟩, ⟨(some 32), (.build [(.int .i64 0), (.int .i64 0), (.int .i64 0)] [(0, (1, (.t 29))), (1, (1, (.t 30))), (2, (1, (.t 31)))]), none, [0, 1, 2]⟩, ⟨none, (.st 3 (.t 4) (.t 32)), none, [3, 0, 1, 2, 3]⟩] false) .ret)))))
theorem mcOk36 : (match Try.f70.body with | some c => compC Try.prog 33 c | none => none) = some mc36 := by kernel_rfl

theorem fc36_ (e : Nat) (L : List Int) (k : Nat) (n : Int) (hn : 0 ≤ n ∧ n ≤ 1000) (hL : L.length ≤ 4611686018427387904) : FC Try.prog 70 [.ptr 1000 0 0, .int .i64 n] [(1000, drawOb e L k)] (aV (vecV L k n)) [(1000, drawOb e L (vecA L k))] true := by
  refine fc_run (nt := 33) Try.func70 rfl rfl mcOk36 (Nat.le_of_ble_eq_true rfl) ?_
  delta mc36
  refine aw_seq ?_
  refine aw_reg ?_
  refine rs_alloc rfl rfl rfl ?_
  refine rs_nil fun _ => ?_
  refine th_n ?_
  refine aw_seq ?_
  refine aw_reg ?_
  refine rs_mv rfl rfl ?_
  refine rs_mv rfl rfl ?_
  refine rs_mulw rfl rfl rfl (W_eq (by omega)) ?_
  refine rs_add rfl rfl rfl (by omega) ?_
  refine rs_callo [(1000, drawOb e L (k))] rfl rfl (fc35 1000 e L (k) (2 * n + 1) (by omega) hL) (.cons (hv_same rfl) (.cons (hv_same rfl) (.nil))) (.cons rfl (.nil)) rfl rfl rfl ?_
  refine rs_mv rfl rfl ?_
  have hn1 := nextV_range L k (2 * n + 1) (by omega)
  refine rs_sub rfl rfl rfl (by omega) ?_
  refine rs_mv rfl rfl ?_
  refine rs_nil fun _ => ?_
  refine th_n ?_
  refine aw_seq ?_
  refine aw_reg ?_
  refine rs_mv rfl rfl ?_
  refine rs_mv rfl rfl ?_
  refine rs_mulw rfl rfl rfl (W_eq (by omega)) ?_
  refine rs_add rfl rfl rfl (by omega) ?_
  refine rs_callo [(1000, drawOb e L (nextA L k))] rfl rfl (fc35 1000 e L (nextA L k) (2 * n + 1) (by omega) hL) (.cons (hv_same rfl) (.cons (hv_same rfl) (.nil))) (.cons rfl (.nil)) rfl rfl rfl ?_
  refine rs_mv rfl rfl ?_
  have hn2 := nextV_range L (nextA L k) (2 * n + 1) (by omega)
  refine rs_sub rfl rfl rfl (by omega) ?_
  refine rs_mv rfl rfl ?_
  refine rs_nil fun _ => ?_
  refine th_n ?_
  refine aw_seq ?_
  refine aw_reg ?_
  refine rs_mv rfl rfl ?_
  refine rs_mv rfl rfl ?_
  refine rs_mulw rfl rfl rfl (W_eq (by omega)) ?_
  refine rs_add rfl rfl rfl (by omega) ?_
  refine rs_callo [(1000, drawOb e L (nextA L (nextA L k)))] rfl rfl (fc35 1000 e L (nextA L (nextA L k)) (2 * n + 1) (by omega) hL) (.cons (hv_same rfl) (.cons (hv_same rfl) (.nil))) (.cons rfl (.nil)) rfl rfl rfl ?_
  refine rs_mv rfl rfl ?_
  have hn3 := nextV_range L (nextA L (nextA L k)) (2 * n + 1) (by omega)
  refine rs_sub rfl rfl rfl (by omega) ?_
  refine rs_mv rfl rfl ?_
  refine rs_nil fun _ => ?_
  refine th_n ?_
  refine aw_seq ?_
  refine aw_reg ?_
  refine rs_mv rfl rfl ?_
  refine rs_mv rfl rfl ?_
  refine rs_mv rfl rfl ?_
  refine rs_build rfl rfl ?_
  refine rs_st rfl rfl rfl rfl rfl rfl rfl (Nat.le_of_ble_eq_true rfl) rfl rfl ?_
  refine rs_nil fun _ => ?_
  refine th_n ?_
  refine aw_ret ?_
  exact ret_own rfl (rc_same rfl (.inl rfl)) (.keep rfl rfl .nil) (.cons rfl rfl rfl .nil)

theorem fc36 (i e : Nat) (L : List Int) (k : Nat) (n : Int) (hn : 0 ≤ n ∧ n ≤ 1000) (hL : L.length ≤ 4611686018427387904) : FC Try.prog 70 [.ptr i 0 0, .int .i64 n] [(i, drawOb e L k)] (aV (vecV L k n)) [(i, drawOb e L (vecA L k))] true :=
  fc_ren (swp 1000 i) (swp_swp _ _) (fc36_ e L k n hn hL) (.cons (.ptr (by simp [swp])) (.cons (.closed rfl) .nil)) (.cons (by simp [swp]) .flat .nil) (.closed rfl) (.cons (by simp [swp]) .flat .nil)

def mc27 : MC := (.seq (.reg [⟨(some 2), (.box 80 3 (.t 0)), none, []⟩, ⟨(some 3), (.box 80 3 (.t 1)), none, []⟩, ⟨(some 4), (.alloc 80 3 [(.int .i64 0), (.int .i64 0), (.int .i64 0)]), none, []⟩] false) (.seq (.reg [⟨(some 5), (.fa 0 (.t 2)), none, []⟩, ⟨(some 6), (.ld false 1 (.t 5)), none, [0]⟩, ⟨(some 7), (.fa 0 (.t 3)), none, []⟩, ⟨(some 8), (.ld false 1 (.t 7)), none, [2]⟩, ⟨(some 9), (.bin .sub (.t 6) (.t 8)), none, [1, 3]⟩, ⟨(some 10), (.fa 1 (.t 2)), none, []⟩, ⟨(some 11), (.ld false 1 (.t 10)), none, [5]⟩, ⟨(some 12), (.fa 1 (.t 3)), none, []⟩, ⟨(some 13), (.ld false 1 (.t 12)), none, [7]⟩, ⟨(some 14), (.bin .sub (.t 11) (.t 13)), none, [6, 8]⟩, ⟨(some 15), (.fa 2 (.t 2)), none, []⟩, ⟨(some 16), (.ld false 1 (.t 15)), none, [10]⟩, ⟨(some 17), (.fa 2 (.t 3)), none, []⟩, ⟨(some 18), (.ld false 1 (.t 17)), none, [12]⟩, ⟨(some 19), (.bin .sub (.t 16) (.t 18)), none, [11, 13]⟩, ⟨(some 20), (.build [(.int .i64 0), (.int .i64 0), (.int .i64 0)] [(0, (1, (.t 9))), (1, (1, (.t 14))), (2, (1, (.t 19)))]), none, [4, 9, 14]⟩, ⟨none, (.st 3 (.t 4) (.t 20)), none, [15, 0, 1, 2, 3, 4, 5, 6, 7, 8, 9, 10, 11, 12, 13, 14, 15]⟩] false) .ret))
theorem mcOk27 : (match Try.f101.body with | some c => compC Try.prog 21 c | none => none) = some mc27 := by kernel_rfl

theorem fc27 (a b : V3) : FC Try.prog 101 [aV a, aV b] [] (aV (subW a b)) [] false := by
  refine fc_run (nt := 21) Try.func101 rfl rfl mcOk27 (Nat.le_of_ble_eq_true rfl) ?_
  delta mc27
  refine aw_seq ?_
  refine aw_reg ?_
  refine rs_box rfl rfl rfl rfl rfl rfl ?_
  refine rs_box rfl rfl rfl rfl rfl rfl ?_
  refine rs_alloc rfl rfl rfl ?_
  refine rs_nil fun _ => ?_
  refine th_n ?_
  refine aw_seq ?_
  refine aw_reg ?_
  refine rs_fa_p rfl rfl ?_
  refine rs_ld_p rfl rfl rfl rfl rfl ?_
  refine rs_fa_p rfl rfl ?_
  refine rs_ld_p rfl rfl rfl rfl rfl ?_
  refine rs_subw rfl rfl rfl rfl ?_
  refine rs_fa_p rfl rfl ?_
  refine rs_ld_p rfl rfl rfl rfl rfl ?_
  refine rs_fa_p rfl rfl ?_
  refine rs_ld_p rfl rfl rfl rfl rfl ?_
  refine rs_subw rfl rfl rfl rfl ?_
  refine rs_fa_p rfl rfl ?_
  refine rs_ld_p rfl rfl rfl rfl rfl ?_
  refine rs_fa_p rfl rfl ?_
  refine rs_ld_p rfl rfl rfl rfl rfl ?_
  refine rs_subw rfl rfl rfl rfl ?_
  refine rs_build rfl rfl ?_
  refine rs_st rfl rfl rfl rfl rfl rfl rfl (Nat.le_of_ble_eq_true rfl) rfl rfl ?_
  refine rs_nil fun _ => ?_
  refine th_n ?_
  refine aw_ret ?_
  exact ret_pure rfl rfl rfl (.inr rfl)

def mc28 : MC := (.seq (.reg [⟨(some 2), (.box 80 3 (.t 0)), none, []⟩, ⟨(some 3), (.box 80 3 (.t 1)), none, []⟩, ⟨(some 4), (.alloc 80 3 [(.int .i64 0), (.int .i64 0), (.int .i64 0)]), none, []⟩] false) (.seq (.reg [⟨(some 5), (.fa 0 (.t 2)), none, []⟩, ⟨(some 6), (.ld false 1 (.t 5)), none, [0]⟩, ⟨(some 7), (.fa 0 (.t 3)), none, []⟩, ⟨(some 8), (.ld false 1 (.t 7)), none, [2]⟩, ⟨(some 9), (.bin .add (.t 6) (.t 8)), none, [1, 3]⟩, ⟨(some 10), (.fa 1 (.t 2)), none, []⟩, ⟨(some 11), (.ld false 1 (.t 10)), none, [5]⟩, ⟨(some 12), (.fa 1 (.t 3)), none, []⟩, ⟨(some 13), (.ld false 1 (.t 12)), none, [7]⟩, ⟨(some 14), (.bin .add (.t 11) (.t 13)), none, [6, 8]⟩, ⟨(some 15), (.fa 2 (.t 2)), none, []⟩, ⟨(some 16), (.ld false 1 (.t 15)), none, [10]⟩, ⟨(some 17), (.fa 2 (.t 3)), none, []⟩, ⟨(some 18), (.ld false 1 (.t 17)), none, [12]⟩, ⟨(some 19), (.bin .add (.t 16) (.t 18)), none, [11, 13]⟩, ⟨(some 20), (.build [(.int .i64 0), (.int .i64 0), (.int .i64 0)] [(0, (1, (.t 9))), (1, (1, (.t 14))), (2, (1, (.t 19)))]), none, [4, 9, 14]⟩, ⟨none, (.st 3 (.t 4) (.t 20)), none, [15, 0, 1, 2, 3, 4, 5, 6, 7, 8, 9, 10, 11, 12, 13, 14, 15]⟩] false) .ret))
theorem mcOk28 : (match Try.f105.body with | some c => compC Try.prog 21 c | none => none) = some mc28 := by kernel_rfl

theorem fc28 (a b : V3) : FC Try.prog 105 [aV a, aV b] [] (aV (addW a b)) [] false := by
  refine fc_run (nt := 21) Try.func105 rfl rfl mcOk28 (Nat.le_of_ble_eq_true rfl) ?_
  delta mc28
  refine aw_seq ?_
  refine aw_reg ?_
  refine rs_box rfl rfl rfl rfl rfl rfl ?_
  refine rs_box rfl rfl rfl rfl rfl rfl ?_
  refine rs_alloc rfl rfl rfl ?_
  refine rs_nil fun _ => ?_
  refine th_n ?_
  refine aw_seq ?_
  refine aw_reg ?_
  refine rs_fa_p rfl rfl ?_
  refine rs_ld_p rfl rfl rfl rfl rfl ?_
  refine rs_fa_p rfl rfl ?_
  refine rs_ld_p rfl rfl rfl rfl rfl ?_
  refine rs_addw rfl rfl rfl rfl ?_
  refine rs_fa_p rfl rfl ?_
  refine rs_ld_p rfl rfl rfl rfl rfl ?_
  refine rs_fa_p rfl rfl ?_
  refine rs_ld_p rfl rfl rfl rfl rfl ?_
  refine rs_addw rfl rfl rfl rfl ?_
  refine rs_fa_p rfl rfl ?_
  refine rs_ld_p rfl rfl rfl rfl rfl ?_
  refine rs_fa_p rfl rfl ?_
  refine rs_ld_p rfl rfl rfl rfl rfl ?_
  refine rs_addw rfl rfl rfl rfl ?_
  refine rs_build rfl rfl ?_
  refine rs_st rfl rfl rfl rfl rfl rfl rfl (Nat.le_of_ble_eq_true rfl) rfl rfl ?_
  refine rs_nil fun _ => ?_
  refine th_n ?_
  refine aw_ret ?_
  exact ret_pure rfl rfl rfl (.inr rfl)

def mc50 : MC := (.seq (.reg [⟨(some 2), (.box 80 3 (.t 0)), none, []⟩, ⟨(some 3), (.box 80 3 (.t 1)), none, []⟩, ⟨(some 4), (.alloc 80 3 [(.int .i64 0), (.int .i64 0), (.int .i64 0)]), none, []⟩] false) (.seq (.reg [⟨(some 5), (.fa 0 (.t 2)), none, []⟩, ⟨(some 6), (.ld false 1 (.t 5)), none, [0]⟩, ⟨(some 7), (.fa 0 (.t 3)), none, []⟩, ⟨(some 8), (.ld false 1 (.t 7)), none, [2]⟩, ⟨(some 9), (.bin .sub (.t 6) (.t 8)), none, [1, 3]⟩, ⟨(some 10), (.fa 1 (.t 2)), none, []⟩, ⟨(some 11), (.ld false 1 (.t 10)), none, [5]⟩, ⟨(some 12), (.fa 1 (.t 3)), none, []⟩, ⟨(some 13), (.ld false 1 (.t 12)), none, [7]⟩, ⟨(some 14), (.bin .sub (.t 11) (.t 13)), none, [6, 8]⟩, ⟨(some 15), (.fa 2 (.t 2)), none, []⟩, ⟨(some 16), (.ld false 1 (.t 15)), none, [10]⟩, ⟨(some 17), (.fa 2 (.t 3)), none, []⟩, ⟨(some 18), (.ld false 1 (.t 17)), none, [12]⟩, ⟨(some 19), (.bin .sub (.t 16) (.t 18)), none, [11, 13]⟩, ⟨(some 20), (.build [(.int .i64 0), (.int .i64 0), (.int .i64 0)] [(0, (1, (.t 9))), (1, (1, (.t 14))), (2, (1, (.t 19)))]), none, [4, 9, 14]⟩, ⟨none, (.st 3 (.t 4) (.t 20)), none, [15, 0, 1, 2, 3, 4, 5, 6, 7, 8, 9, 10, 11, 12, 13, 14, 15]⟩] false) .ret))
theorem mcOk50 : (match Try.f61.body with | some c => compC Try.prog 21 c | none => none) = some mc50 := by kernel_rfl

theorem fc50 (a b : V3) : FC Try.prog 61 [aV a, aV b] [] (aV (subW a b)) [] false := by
  refine fc_run (nt := 21) Try.func61 rfl rfl mcOk50 (Nat.le_of_ble_eq_true rfl) ?_
  delta mc50
  refine aw_seq ?_
  refine aw_reg ?_
  refine rs_box rfl rfl rfl rfl rfl rfl ?_
  refine rs_box rfl rfl rfl rfl rfl rfl ?_
  refine rs_alloc rfl rfl rfl ?_
  refine rs_nil fun _ => ?_
  refine th_n ?_
  refine aw_seq ?_
  refine aw_reg ?_
  refine rs_fa_p rfl rfl ?_
  refine rs_ld_p rfl rfl rfl rfl rfl ?_
  refine rs_fa_p rfl rfl ?_
  refine rs_ld_p rfl rfl rfl rfl rfl ?_
  refine rs_subw rfl rfl rfl rfl ?_
  refine rs_fa_p rfl rfl ?_
  refine rs_ld_p rfl rfl rfl rfl rfl ?_
  refine rs_fa_p rfl rfl ?_
  refine rs_ld_p rfl rfl rfl rfl rfl ?_
  refine rs_subw rfl rfl rfl rfl ?_
  refine rs_fa_p rfl rfl ?_
  refine rs_ld_p rfl rfl rfl rfl rfl ?_
  refine rs_fa_p rfl rfl ?_
  refine rs_ld_p rfl rfl rfl rfl rfl ?_
  refine rs_subw rfl rfl rfl rfl ?_
  refine rs_build rfl rfl ?_
  refine rs_st rfl rfl rfl rfl rfl rfl rfl (Nat.le_of_ble_eq_true rfl) rfl rfl ?_
  refine rs_nil fun _ => ?_
  refine th_n ?_
  refine aw_ret ?_
  exact ret_pure rfl rfl rfl (.inr rfl)

def mc57 : MC := (.seq (.reg [⟨(some 2), (.box 80 3 (.t 0)), none, []⟩, ⟨(some 3), (.box 80 3 (.t 1)), none, []⟩, ⟨(some 4), (.alloc 80 3 [(.int .i64 0), (.int .i64 0), (.int .i64 0)]), none, []⟩] false) (.seq (.reg [⟨(some 5), (.fa 0 (.t 2)), none, []⟩, ⟨(some 6), (.ld false 1 (.t 5)), none, [0]⟩, ⟨(some 7), (.fa 0 (.t 3)), none, []⟩, ⟨(some 8), (.ld false 1 (.t 7)), none, [2]⟩, ⟨(some 9), (.bin .add (.t 6) (.t 8)), none, [1, 3]⟩, ⟨(some 10), (.fa 1 (.t 2)), none, []⟩, ⟨(some 11), (.ld false 1 (.t 10)), none, [5]⟩, ⟨(some 12), (.fa 1 (.t 3)), none, []⟩, ⟨(some 13), (.ld false 1 (.t 12)), none, [7]⟩, ⟨(some 14), (.bin .add (.t 11) (.t 13)), none, [6, 8]⟩, ⟨(some 15), (.fa 2 (.t 2)), none, []⟩, ⟨(some 16), (.ld false 1 (.t 15)), none, [10]⟩, ⟨(some 17), (.fa 2 (.t 3)), none, []⟩, ⟨(some 18), (.ld false 1 (.t 17)), none, [12]⟩, ⟨(some 19), (.bin .add (.t 16) (.t 18)), none, [11, 13]⟩, ⟨(some 20), (.build [(.int .i64 0), (.int .i64 0), (.int .i64 0)] [(0, (1, (.t 9))), (1, (1, (.t 14))), (2, (1, (.t 19)))]), none, [4, 9, 14]⟩, ⟨none, (.st 3 (.t 4) (.t 20)), none, [15, 0, 1, 2, 3, 4, 5, 6, 7, 8, 9, 10, 11, 12, 13, 14, 15]⟩] false) .ret))
theorem mcOk57 : (match Try.f62.body with | some c => compC Try.prog 21 c | none => none) = some mc57 := by kernel_rfl

theorem fc57 (a b : V3) : FC Try.prog 62 [aV a, aV b] [] (aV (addW a b)) [] false := by
  refine fc_run (nt := 21) Try.func62 rfl rfl mcOk57 (Nat.le_of_ble_eq_true rfl) ?_
  delta mc57
  refine aw_seq ?_
  refine aw_reg ?_
  refine rs_box rfl rfl rfl rfl rfl rfl ?_
  refine rs_box rfl rfl rfl rfl rfl rfl ?_
  refine rs_alloc rfl rfl rfl ?_
  refine rs_nil fun _ => ?_
  refine th_n ?_
  refine aw_seq ?_
  refine aw_reg ?_
  refine rs_fa_p rfl rfl ?_
  refine rs_ld_p rfl rfl rfl rfl rfl ?_
  refine rs_fa_p rfl rfl ?_
  refine rs_ld_p rfl rfl rfl rfl rfl ?_
  refine rs_addw rfl rfl rfl rfl ?_
  refine rs_fa_p rfl rfl ?_
  refine rs_ld_p rfl rfl rfl rfl rfl ?_
  refine rs_fa_p rfl rfl ?_
  refine rs_ld_p rfl rfl rfl rfl rfl ?_
  refine rs_addw rfl rfl rfl rfl ?_
  refine rs_fa_p rfl rfl ?_
  refine rs_ld_p rfl rfl rfl rfl rfl ?_
  refine rs_fa_p rfl rfl ?_
  refine rs_ld_p rfl rfl rfl rfl rfl ?_
  refine rs_addw rfl rfl rfl rfl ?_
  refine rs_build rfl rfl ?_
  refine rs_st rfl rfl rfl rfl rfl rfl rfl (Nat.le_of_ble_eq_true rfl) rfl rfl ?_
  refine rs_nil fun _ => ?_
  refine th_n ?_
  refine aw_ret ?_
  exact ret_pure rfl rfl rfl (.inr rfl)

def mc30 : MC := (.seq (.reg [⟨(some 2), (.box 80 3 (.t 0)), none, []⟩, ⟨(some 3), (.box 80 3 (.t 1)), none, []⟩, ⟨(some 4), (.mv (.c (.int .i64 0))), none, []⟩] false) (.seq (.reg [⟨(some 5), (.fa 0 (.t 2)), none, []⟩, ⟨(some 6), (.ld false 1 (.t 5)), none, [0]⟩, ⟨(some 7), (.fa 0 (.t 3)), none, []⟩, ⟨(some 8), (.ld false 1 (.t 7)), none, [2]⟩, ⟨(some 9), (.bin .mul (.t 6) (.t 8)), none, [1, 3]⟩, ⟨(some 10), (.fa 1 (.t 2)), none, []⟩, ⟨(some 11), (.ld false 1 (.t 10)), none, [5]⟩, ⟨(some 12), (.fa 1 (.t 3)), none, []⟩, ⟨(some 13), (.ld false 1 (.t 12)), none, [7]⟩, ⟨(some 14), (.bin .mul (.t 11) (.t 13)), none, [6, 8]⟩, ⟨(some 15), (.bin .add (.t 9) (.t 14)), none, [4, 9]⟩, ⟨(some 16), (.fa 2 (.t 2)), none, []⟩, ⟨(some 17), (.ld false 1 (.t 16)), none, [11]⟩, ⟨(some 18), (.fa 2 (.t 3)), none, []⟩, ⟨(some 19), (.ld false 1 (.t 18)), none, [13]⟩, ⟨(some 20), (.bin .mul (.t 17) (.t 19)), none, [12, 14]⟩, ⟨(some 21), (.bin .add (.t 15) (.t 20)), none, [10, 15]⟩, ⟨(some 4), (.mv (.t 21)), none, [16, 0, 1, 2, 3, 4, 5, 6, 7, 8, 9, 10, 11, 12, 13, 14, 15, 16]⟩] false) .ret))
theorem mcOk30 : (match Try.f113.body with | some c => compC Try.prog 22 c | none => none) = some mc30 := by kernel_rfl

theorem fc30 (a b : V3) : FC Try.prog 113 [aV a, aV b] [] (iv (dotW a b)) [] false := by
  refine fc_run (nt := 22) Try.func113 rfl rfl mcOk30 (Nat.le_of_ble_eq_true rfl) ?_
  delta mc30
  refine aw_seq ?_
  refine aw_reg ?_
  refine rs_box rfl rfl rfl rfl rfl rfl ?_
  refine rs_box rfl rfl rfl rfl rfl rfl ?_
  refine rs_mv rfl rfl ?_
  refine rs_nil fun _ => ?_
  refine th_n ?_
  refine aw_seq ?_
  refine aw_reg ?_
  refine rs_fa_p rfl rfl ?_
  refine rs_ld_p rfl rfl rfl rfl rfl ?_
  refine rs_fa_p rfl rfl ?_
  refine rs_ld_p rfl rfl rfl rfl rfl ?_
  refine rs_mulw rfl rfl rfl rfl ?_
  refine rs_fa_p rfl rfl ?_
  refine rs_ld_p rfl rfl rfl rfl rfl ?_
  refine rs_fa_p rfl rfl ?_
  refine rs_ld_p rfl rfl rfl rfl rfl ?_
  refine rs_mulw rfl rfl rfl rfl ?_
  refine rs_addw rfl rfl rfl rfl ?_
  refine rs_fa_p rfl rfl ?_
  refine rs_ld_p rfl rfl rfl rfl rfl ?_
  refine rs_fa_p rfl rfl ?_
  refine rs_ld_p rfl rfl rfl rfl rfl ?_
  refine rs_mulw rfl rfl rfl rfl ?_
  refine rs_addw rfl rfl rfl rfl ?_
  refine rs_mv rfl rfl ?_
  refine rs_nil fun _ => ?_
  refine th_n ?_
  refine aw_ret ?_
  exact ret_pure rfl rfl rfl (.inr rfl)

def mc52 : MC := (.seq (.reg [⟨(some 2), (.box 80 3 (.t 0)), none, []⟩, ⟨(some 3), (.box 80 3 (.t 1)), none, []⟩, ⟨(some 4), (.mv (.c (.int .i64 0))), none, []⟩] false) (.seq (.reg [⟨(some 5), (.fa 0 (.t 2)), none, []⟩, ⟨(some 6), (.ld false 1 (.t 5)), none, [0]⟩, ⟨(some 7), (.fa 0 (.t 3)), none, []⟩, ⟨(some 8), (.ld false 1 (.t 7)), none, [2]⟩, ⟨(some 9), (.bin .mul (.t 6) (.t 8)), none, [1, 3]⟩, ⟨(some 10), (.fa 1 (.t 2)), none, []⟩, ⟨(some 11), (.ld false 1 (.t 10)), none, [5]⟩, ⟨(some 12), (.fa 1 (.t 3)), none, []⟩, ⟨(some 13), (.ld false 1 (.t 12)), none, [7]⟩, ⟨(some 14), (.bin .mul (.t 11) (.t 13)), none, [6, 8]⟩, ⟨(some 15), (.bin .add (.t 9) (.t 14)), none, [4, 9]⟩, ⟨(some 16), (.fa 2 (.t 2)), none, []⟩, ⟨(some 17), (.ld false 1 (.t 16)), none, [11]⟩, ⟨(some 18), (.fa 2 (.t 3)), none, []⟩, ⟨(some 19), (.ld false 1 (.t 18)), none, [13]⟩, ⟨(some 20), (.bin .mul (.t 17) (.t 19)), none, [12, 14]⟩, ⟨(some 21), (.bin .add (.t 15) (.t 20)), none, [10, 15]⟩, ⟨(some 4), (.mv (.t 21)), none, [16, 0, 1, 2, 3, 4, 5, 6, 7, 8, 9, 10, 11, 12, 13, 14, 15, 16]⟩] false) .ret))
theorem mcOk52 : (match Try.f76.body with | some c => compC Try.prog 22 c | none => none) = some mc52 := by kernel_rfl

theorem fc52 (a b : V3) : FC Try.prog 76 [aV a, aV b] [] (iv (dotW a b)) [] false := by
  refine fc_run (nt := 22) Try.func76 rfl rfl mcOk52 (Nat.le_of_ble_eq_true rfl) ?_
  delta mc52
  refine aw_seq ?_
  refine aw_reg ?_
  refine rs_box rfl rfl rfl rfl rfl rfl ?_
  refine rs_box rfl rfl rfl rfl rfl rfl ?_
  refine rs_mv rfl rfl ?_
  refine rs_nil fun _ => ?_
  refine th_n ?_
  refine aw_seq ?_
  refine aw_reg ?_
  refine rs_fa_p rfl rfl ?_
  refine rs_ld_p rfl rfl rfl rfl rfl ?_
  refine rs_fa_p rfl rfl ?_
  refine rs_ld_p rfl rfl rfl rfl rfl ?_
  refine rs_mulw rfl rfl rfl rfl ?_
  refine rs_fa_p rfl rfl ?_
  refine rs_ld_p rfl rfl rfl rfl rfl ?_
  refine rs_fa_p rfl rfl ?_
  refine rs_ld_p rfl rfl rfl rfl rfl ?_
  refine rs_mulw rfl rfl rfl rfl ?_
  refine rs_addw rfl rfl rfl rfl ?_
  refine rs_fa_p rfl rfl ?_
  refine rs_ld_p rfl rfl rfl rfl rfl ?_
  refine rs_fa_p rfl rfl ?_
  refine rs_ld_p rfl rfl rfl rfl rfl ?_
  refine rs_mulw rfl rfl rfl rfl ?_
  refine rs_addw rfl rfl rfl rfl ?_
  refine rs_mv rfl rfl ?_
  refine rs_nil fun _ => ?_
  refine th_n ?_
  refine aw_ret ?_
  exact ret_pure rfl rfl rfl (.inr rfl)

def mc37 : MC := (.seq (.reg [⟨(some 3), (.box 80 3 (.t 0)), none, []⟩, ⟨(some 4), (.box 80 3 (.t 1)), none, []⟩, ⟨(some 6), (.alloc 80 3 [(.int .i64 0), (.int .i64 0), (.int .i64 0)]), none, []⟩] false) (.seq (.reg [⟨(some 7), (.fa 0 (.t 3)), none, []⟩, ⟨(some 8), (.ld false 1 (.t 7)), none, [0]⟩, ⟨(some 9), (.mv (.t 2)), none, []⟩, ⟨(some 10), (.fa 0 (.t 4)), none, []⟩, ⟨(some 11), (.ld false 1 (.t 10)), none, [3]⟩, ⟨(some 12), (.bin .mul (.t 9) (.t 11)), none, [2, 4]⟩, ⟨(some 13), (.bin .add (.t 8) (.t 12)), none, [1, 5]⟩, ⟨(some 14), (.fa 1 (.t 3)), none, []⟩, ⟨(some 15), (.ld false 1 (.t 14)), none, [7]⟩, ⟨(some 16), (.mv (.t 2)), none, []⟩, ⟨(some 17), (.fa 1 (.t 4)), none, []⟩, ⟨(some 18), (.ld false 1 (.t 17)), none, [10]⟩, ⟨(some 19), (.bin .mul (.t 16) (.t 18)), none, [9, 11]⟩, ⟨(some 20), (.bin .add (.t 15) (.t 19)), none, [8, 12]⟩, ⟨(some 21), (.fa 2 (.t 3)), none, []⟩, ⟨(some 22), (.ld false 1 (.t 21)), none, [14]⟩, ⟨(some 23), (.mv (.t 2)), none, []⟩, ⟨(some 24), (.fa 2 (.t 4)), none, []⟩, ⟨(some 25), (.ld false 1 (.t 24)), none, [17]⟩, ⟨(some 26), (.bin .mul (.t 23) (.t 25)), none, [16, 18]⟩, ⟨(some 27), (.bin .add (.t 22) (.t 26)), none, [15, 19]⟩, ⟨(some 28), (.build [(.int .i64 0), (.int .i64 0), (.int .i64 0)] [(0, (1, (.t 13))), (1, (1, (.t 20))), (2, (1, (.t 27)))]), none, [6, 13, 20]⟩, ⟨none, (.st 3 (.t 6) (.t 28)), none, [21, 0, 1, 2, 3, 4, 5, 6, 7, 8, 9, 10, 11, 12, 13, 14, 15, 16, 17, 18, 19, 20, 21]⟩] false) .ret))
theorem mcOk37 : (match Try.f71.body with | some c => compC Try.prog 29 c | none => none) = some mc37 := by kernel_rfl

theorem fc37 (a b : V3) (n : Int) : FC Try.prog 71 [aV a, aV b, iv n] [] (aV (plusW a b n)) [] false := by
  refine fc_run (nt := 29) Try.func71 rfl rfl mcOk37 (Nat.le_of_ble_eq_true rfl) ?_
  delta mc37
  refine aw_seq ?_
  refine aw_reg ?_
  refine rs_box rfl rfl rfl rfl rfl rfl ?_
  refine rs_box rfl rfl rfl rfl rfl rfl ?_
  refine rs_alloc rfl rfl rfl ?_
  refine rs_nil fun _ => ?_
  refine th_n ?_
  refine aw_seq ?_
  refine aw_reg ?_
  refine rs_fa_p rfl rfl ?_
  refine rs_ld_p rfl rfl rfl rfl rfl ?_
  refine rs_mv rfl rfl ?_
  refine rs_fa_p rfl rfl ?_
  refine rs_ld_p rfl rfl rfl rfl rfl ?_
  refine rs_mulw rfl rfl rfl rfl ?_
  refine rs_addw rfl rfl rfl rfl ?_
  refine rs_fa_p rfl rfl ?_
  refine rs_ld_p rfl rfl rfl rfl rfl ?_
  refine rs_mv rfl rfl ?_
  refine rs_fa_p rfl rfl ?_
  refine rs_ld_p rfl rfl rfl rfl rfl ?_
  refine rs_mulw rfl rfl rfl rfl ?_
  refine rs_addw rfl rfl rfl rfl ?_
  refine rs_fa_p rfl rfl ?_
  refine rs_ld_p rfl rfl rfl rfl rfl ?_
  refine rs_mv rfl rfl ?_
  refine rs_fa_p rfl rfl ?_
  refine rs_ld_p rfl rfl rfl rfl rfl ?_
  refine rs_mulw rfl rfl rfl rfl ?_
  refine rs_addw rfl rfl rfl rfl ?_
  refine rs_build rfl rfl ?_
  refine rs_st rfl rfl rfl rfl rfl rfl rfl (Nat.le_of_ble_eq_true rfl) rfl rfl ?_
  refine rs_nil fun _ => ?_
  refine th_n ?_
  refine aw_ret ?_
  exact ret_pure rfl rfl rfl (.inr rfl)

def mc78 : MC := (.seq (.reg [⟨(some 3), (.box 80 3 (.t 0)), none, []⟩, ⟨(some 4), (.box 80 3 (.t 1)), none, []⟩, ⟨(some 6), (.alloc 80 3 [(.int .i64 0), (.int .i64 0), (.int .i64 0)]), none, []⟩] false) (.seq (.reg [⟨(some 7), (.ld true 3 (.t 3)), none, []⟩, ⟨(some 8), (.mv (.t 2)), none, []⟩, ⟨(some 9), (.fa 0 (.t 4)), none, []⟩, ⟨(some 10), (.ld false 1 (.t 9)), none, [2]⟩, ⟨(some 11), (.bin .mul (.t 8) (.t 10)), none, [1, 3]⟩, ⟨(some 12), (.mv (.t 2)), none, []⟩, ⟨(some 13), (.fa 1 (.t 4)), none, []⟩, ⟨(some 14), (.ld false 1 (.t 13)), none, [6]⟩, ⟨(some 15), (.bin .mul (.t 12) (.t 14)), none, [5, 7]⟩, ⟨(some 16), (.mv (.t 2)), none, []⟩, ⟨(some 17), (.fa 2 (.t 4)), none, []⟩, ⟨(some 18), (.ld false 1 (.t 17)), none, [10]⟩, ⟨(some 19), (.bin .mul (.t 16) (.t 18)), none, [9, 11]⟩, ⟨(some 20), (.build [(.int .i64 0), (.int .i64 0), (.int .i64 0)] [(0, (1, (.t 11))), (1, (1, (.t 15))), (2, (1, (.t 19)))]), none, [4, 8, 12]⟩, ⟨(some 21), (.call 105 [(.t 7), (.t 20)]), none, [0, 13]⟩, ⟨none, (.st 3 (.t 6) (.t 21)), none, [14, 14, 0, 1, 2, 3, 4, 5, 6, 7, 8, 9, 10, 11, 12, 13, 14]⟩] false) .ret))
theorem mcOk78 : (match Try.f103.body with | some c => compC Try.prog 22 c | none => none) = some mc78 := by kernel_rfl

theorem fc78 (a b : V3) (n : Int) : FC Try.prog 103 [aV a, aV b, iv n] [] (aV (plusW a b n)) [] false := by
  refine fc_run (nt := 22) Try.func103 rfl rfl mcOk78 (Nat.le_of_ble_eq_true rfl) ?_
  delta mc78
  refine aw_seq ?_
  refine aw_reg ?_
  refine rs_box rfl rfl rfl rfl rfl rfl ?_
  refine rs_box rfl rfl rfl rfl rfl rfl ?_
  refine rs_alloc rfl rfl rfl ?_
  refine rs_nil fun _ => ?_
  refine th_n ?_
  refine aw_seq ?_
  refine aw_reg ?_
  refine rs_ld_pa rfl rfl rfl rfl (Nat.le_of_ble_eq_true rfl) rfl ?_
  refine rs_mv rfl rfl ?_
  refine rs_fa_p rfl rfl ?_
  refine rs_ld_p rfl rfl rfl rfl rfl ?_
  refine rs_mulw rfl rfl rfl rfl ?_
  refine rs_mv rfl rfl ?_
  refine rs_fa_p rfl rfl ?_
  refine rs_ld_p rfl rfl rfl rfl rfl ?_
  refine rs_mulw rfl rfl rfl rfl ?_
  refine rs_mv rfl rfl ?_
  refine rs_fa_p rfl rfl ?_
  refine rs_ld_p rfl rfl rfl rfl rfl ?_
  refine rs_mulw rfl rfl rfl rfl ?_
  refine rs_build rfl rfl ?_
  refine rs_calln [] rfl rfl (fc28 a ⟨W (n * b.x), W (n * b.y), W (n * b.z)⟩) (.cons (hv_same rfl) (.cons (hv_same rfl) (.nil))) rfl ?_
  refine rs_st rfl rfl rfl rfl rfl rfl rfl (Nat.le_of_ble_eq_true rfl) rfl rfl ?_
  refine rs_nil fun _ => ?_
  refine th_n ?_
  refine aw_ret ?_
  exact ret_pure rfl rfl rfl (.inr rfl)

def mc55 : MC := (.seq (.reg [⟨(some 2), (.mv (.c (.int .i64 0))), none, []⟩] false) (.seq (.reg [⟨(some 3), (.mv (.t 0)), none, []⟩, ⟨(some 4), (.mv (.t 0)), none, []⟩, ⟨(some 5), (.un .neg (.t 4)), none, [1]⟩, ⟨(some 6), (.mx (.t 3) (.t 5)), none, [0, 2]⟩, ⟨(some 2), (.mv (.t 6)), none, [3, 0, 1, 2, 3]⟩] false) .ret))
theorem mcOk55 : (match Try.f106.body with | some c => compC Try.prog 7 c | none => none) = some mc55 := by kernel_rfl

theorem fc55 (n : Int) (h : -1000000 ≤ n ∧ n ≤ 1000000) : FC Try.prog 106 [iv n] [] (iv (n.natAbs : Int)) [] false := by
  refine fc_run (nt := 7) Try.func106 rfl rfl mcOk55 (Nat.le_of_ble_eq_true rfl) ?_
  delta mc55
  refine aw_seq ?_
  refine aw_reg ?_
  refine rs_mv rfl rfl ?_
  refine rs_nil fun _ => ?_
  refine th_n ?_
  refine aw_seq ?_
  refine aw_reg ?_
  refine rs_mv rfl rfl ?_
  refine rs_mv rfl rfl ?_
  refine rs_neg rfl rfl (by omega) ?_
  refine rs_mx rfl rfl rfl (abs_max n) ?_
  refine rs_mv rfl rfl ?_
  refine rs_nil fun _ => ?_
  refine th_n ?_
  refine aw_ret ?_
  exact ret_pure rfl rfl rfl (.inr rfl)

def mc48 : MC := (.seq (.reg [⟨(some 2), (.mv (.c (.int .i64 0))), none, []⟩] false) (.seq (.seq (.reg [⟨(some 3), (.mv (.t 0)), none, []⟩, ⟨(some 4), (.bin .lss (.t 3) (.c (.int .i64 0))), none, [0]⟩] false) (.cond (.t 4) (.seq (.reg [⟨(some 5), (.mv (.t 0)), none, []⟩, ⟨(some 6), (.un .neg (.t 5)), none, [0]⟩, ⟨(some 2), (.mv (.t 6)), none, [1, 0, 1]⟩] false) .ret) .skip)) (.seq (.reg [⟨(some 7), (.mv (.t 0)), none, []⟩, ⟨(some 2), (.mv (.t 7)), none, [0, 0]⟩] false) .ret)))
theorem mcOk48 : (match Try.f80.body with | some c => compC Try.prog 8 c | none => none) = some mc48 := by kernel_rfl

theorem fc48 (n : Int) (h : -1000000 ≤ n ∧ n ≤ 1000000) : FC Try.prog 80 [iv n] [] (iv (n.natAbs : Int)) [] false := by
  refine fc_run (nt := 8) Try.func80 rfl rfl mcOk48 (Nat.le_of_ble_eq_true rfl) ?_
  delta mc48
  refine aw_seq ?_
  refine aw_reg ?_
  refine rs_mv rfl rfl ?_
  refine rs_nil fun _ => ?_
  refine th_n ?_
  refine aw_seq ?_
  refine aw_seq ?_
  refine aw_reg ?_
  refine rs_mv rfl rfl ?_
  refine rs_lss rfl rfl rfl ?_
  refine rs_nil fun _ => ?_
  refine th_n ?_
  refine aw_cond rfl (fun h4 => ?_) (fun h4 => ?_)
  · replace h4 := of_decide_eq_true h4
    refine aw_seq ?_
    refine aw_reg ?_
    refine rs_mv rfl rfl ?_
    refine rs_neg rfl rfl (by omega) ?_
    refine rs_mv rfl rfl ?_
    refine rs_nil fun _ => ?_
    refine th_n ?_
    refine aw_ret ?_
    refine th_r ?_
    exact ret_pure rfl (congrArg iv (by omega)) rfl (.inr rfl)
  · replace h4 := of_decide_eq_false h4
    refine aw_skip ?_
    refine th_n ?_
    refine aw_seq ?_
    refine aw_reg ?_
    refine rs_mv rfl rfl ?_
    refine rs_mv rfl rfl ?_
    refine rs_nil fun _ => ?_
    refine th_n ?_
    refine aw_ret ?_
    exact ret_pure rfl (congrArg iv (by omega)) rfl (.inr rfl)

def mc46 : MC := (.seq (.reg [⟨(some 2), (.mv (.c (.int .i64 0))), none, []⟩] false) (.seq (.reg [⟨(some 3), (.mv (.c (.int .i64 0))), none, []⟩] false) (.seq (.seq (.reg [⟨(some 6), (.mv (.t 0)), none, []⟩, ⟨(some 7), (.len (.t 6)), none, [0]⟩, ⟨(some 8), (.mv (.c (.int .i64 0))), none, []⟩] false) (.block 0 (.loop (.seq (.reg [⟨(some 9), (.bin .lss (.t 8) (.t 7)), none, []⟩] false) (.seq (.cond (.t 9) .skip (.exit 0)) (.seq (.block 1 (.seq (.reg [⟨(some 10), (.ixsl 1 (.t 6) (.t 8)), none, []⟩, ⟨(some 11), (.ld false 1 (.t 10)), none, [0]⟩, ⟨(some 5), (.mv (.t 11)), none, [1, 0, 1]⟩] false) (.seq (.seq (.reg [⟨(some 12), (.mv (.t 5)), none, []⟩, ⟨(some 13), (.bin .eql (.t 12) (.c (.int .i64 (-9223372036854775808)))), none, [0]⟩] false) (.cond (.t 13) (.seq (.reg [⟨(some 2), (.mv (.c (.int .i64 0))), none, []⟩] false) .ret) .skip)) (.seq (.reg [⟨(some 14), (.mv (.t 5)), none, []⟩, ⟨(some 15), (.call 106 [(.t 14)]), none, [0]⟩, ⟨(some 5), (.mv (.t 15)), none, [1, 1, 0, 1]⟩] false) (.block 2 (.loop (.seq (.seq (.reg [⟨(some 16), (.mv (.t 5)), none, []⟩, ⟨(some 17), (.bin .gtr (.t 16) (.c (.int .i64 0))), none, [0]⟩] false) (.cond (.t 17) .skip (.exit 2))) (.block 3 (.reg [⟨(some 18), (.mv (.t 5)), none, []⟩, ⟨(some 19), (.mv (.t 3)), none, []⟩, ⟨(some 20), (.mv (.t 5)), none, []⟩, ⟨(some 21), (.bin .rem (.t 19) (.t 20)), none, [1, 2]⟩, ⟨(some 3), (.mv (.t 18)), none, [0, 0, 1]⟩, ⟨(some 5), (.mv (.t 21)), none, [3, 4, 0, 1, 2, 3, 4]⟩] true))))))))) (.reg [⟨(some 22), (.bin .add (.t 8) (.c (.int .i64 1))), none, []⟩, ⟨(some 8), (.mv (.t 22)), none, [0]⟩] false))))))) (.seq (.reg [⟨(some 23), (.mv (.t 3)), none, []⟩, ⟨(some 2), (.mv (.t 23)), none, [0, 0]⟩] false) .ret))))
theorem mcOk46 : (match Try.f104.body with | some c => compC Try.prog 24 c | none => none) = some mc46 := by kernel_rfl

theorem fc46 (l : List Int) (hl : ∀ x ∈ l, -1000000 ≤ x ∧ x ≤ 1000000) (hn : l.length ≤ 1000) : FC Try.prog 104 [ints l] [] (iv (gL l : Int)) [] false := by
  refine fc_run (nt := 24) Try.func104 rfl rfl mcOk46 (Nat.le_of_ble_eq_true rfl) ?_
  delta mc46
  refine aw_seq ?_
  refine aw_reg ?_
  refine rs_mv rfl rfl ?_
  refine rs_nil fun _ => ?_
  refine th_n ?_
  refine aw_seq ?_
  refine aw_reg ?_
  refine rs_mv rfl rfl ?_
  refine rs_nil fun _ => ?_
  refine th_n ?_
  refine aw_seq ?_
  refine aw_seq ?_
  refine aw_reg ?_
  refine rs_mv rfl rfl ?_
  refine rs_len_m rfl rfl ?_
  refine rs_mv rfl rfl ?_
  refine rs_nil fun _ => ?_
  refine th_n ?_
  refine aw_block ?_
  refine aw_fam (α := Nat) (fun k => l.length - k) (fun k => [(6, ints l), (7, iv (l.length : Int)), (8, iv (((k) : Nat) : Int)), (3, iv ((gL (l.take k) : Nat) : Int))]) (fun k => []) (fun k => k ≤ l.length) 0 (by omega)
    (weak_to (.cons rfl (rc_same rfl (.inl rfl)) (.cons rfl (rc_same rfl (.inl rfl)) (.cons rfl (rc_same rfl (.inl rfl)) (.cons rfl (rc_same rfl (.inl rfl)) (.nil))))) (.nil) (fun i h => by cases h)) ?_
  intro k hk
  refine aw_seq ?_
  refine aw_reg ?_
  refine rs_lss rfl rfl rfl ?_
  refine rs_nil fun _ => ?_
  refine th_n ?_
  refine aw_seq ?_
  refine aw_cond rfl (fun h9 => ?_) (fun h9 => ?_)
  · replace h9 := of_decide_eq_true h9
    refine aw_skip ?_
    refine th_n ?_
    refine aw_seq ?_
    refine aw_block ?_
    refine aw_seq ?_
    refine aw_reg ?_
    obtain ⟨x, hx, hxm⟩ := at_some (L := l) (k := k) (by omega)
    have hb := hl x hxm
    refine rs_ix_g rfl rfl rfl (by omega) hx ?_
    refine rs_ld_r rfl rfl rfl ?_
    refine rs_mv rfl rfl ?_
    refine rs_nil fun _ => ?_
    refine th_n ?_
    refine aw_seq ?_
    refine aw_seq ?_
    refine aw_reg ?_
    refine rs_mv rfl rfl ?_
    refine rs_eql rfl rfl rfl ?_
    refine rs_nil fun _ => ?_
    refine th_n ?_
    refine aw_cond rfl (fun h13 => ?_) (fun h13 => ?_)
    · replace h13 := of_decide_eq_true h13
      refine aw_seq ?_
      refine aw_reg ?_
      refine rs_mv rfl rfl ?_
      refine rs_nil fun _ => ?_
      refine th_n ?_
      refine aw_ret ?_
      refine th_r ?_
      refine in_r ?_
      refine th_r ?_
      refine th_r ?_
      refine in_r ?_
      refine th_r ?_
      (exfalso; omega)
    · replace h13 := of_decide_eq_false h13
      refine aw_skip ?_
      refine th_n ?_
      refine aw_seq ?_
      refine aw_reg ?_
      refine rs_mv rfl rfl ?_
      refine rs_calln [] rfl rfl (fc55 x (hl x hxm)) (.cons (hv_same rfl) (.nil)) rfl ?_
      refine rs_mv rfl rfl ?_
      refine rs_nil fun _ => ?_
      refine th_n ?_
      refine aw_block ?_
      refine aw_fam (α := Nat × Nat) (fun a => a.2) (fun a => [(6, ints l), (7, iv (l.length : Int)), (8, iv (((k) : Nat) : Int)), (3, iv (a.1 : Int)), (5, iv (a.2 : Int))]) (fun a => []) (fun a => Nat.gcd a.1 a.2 = gL (l.take (k + 1))) (gL (l.take k), x.natAbs) ((gL_succ hx).symm)
        (weak_to (.cons rfl (rc_same rfl (.inl rfl)) (.cons rfl (rc_same rfl (.inl rfl)) (.cons rfl (rc_same rfl (.inl rfl)) (.cons rfl (rc_same rfl (.inl rfl)) (.cons rfl (rc_same rfl (.inl rfl)) (.nil)))))) (.nil) (fun i h => by cases h)) ?_
      rintro ⟨g, n⟩ hg
      dsimp only at hg ⊢
      refine aw_seq ?_
      refine aw_seq ?_
      refine aw_reg ?_
      refine rs_mv rfl rfl ?_
      refine rs_gtr rfl rfl rfl ?_
      refine rs_nil fun _ => ?_
      refine th_n ?_
      refine aw_cond rfl (fun h17 => ?_) (fun h17 => ?_)
      · replace h17 := of_decide_eq_true h17
        refine aw_skip ?_
        refine th_n ?_
        refine aw_block ?_
        refine aw_draw hmix ?_
        refine rs_mv rfl rfl ?_
        refine rs_mv rfl rfl ?_
        refine rs_mv rfl rfl ?_
        refine rs_rem rfl rfl rfl (by omega) (tmod_nat g n) ?_
        refine rs_mv rfl rfl ?_
        refine rs_mv rfl rfl ?_
        refine rs_nil ⟨by kernel_rfl, fun _ => ?_⟩
        refine in_n ?_
        refine th_n ?_
        exact ⟨(n, g % n), by rw [← hg]; exact gcd_step g n, Nat.mod_lt _ (by omega), weak_to (.cons rfl (rc_same rfl (.inl rfl)) (.cons rfl (rc_same rfl (.inl rfl)) (.cons rfl (rc_same rfl (.inl rfl)) (.cons rfl (rc_same rfl (.inl rfl)) (.cons rfl (rc_same rfl (.inl rfl)) (.nil)))))) (.nil) (fun i h => by cases h)⟩
      · replace h17 := of_decide_eq_false h17
        refine aw_exit ?_
        refine th_e ?_
        refine th_e ?_
        refine in_hit ?_
        refine in_n ?_
        refine th_n ?_
        refine aw_reg ?_
        refine rs_add rfl rfl rfl (by omega) ?_
        refine rs_mv rfl rfl ?_
        refine rs_nil fun _ => ?_
        refine th_n ?_
        have hn0 : n = 0 := by omega
        rw [hn0, Nat.gcd_zero_right] at hg
        subst hg
        exact ⟨k + 1, by omega, by omega, weak_to (.cons rfl (rc_same rfl (.inl rfl)) (.cons rfl (rc_same rfl (.inl rfl)) (.cons rfl (rc_same rfl (.inl rfl)) (.cons rfl (rc_same rfl (.inl rfl)) (.nil))))) (.nil) (fun i h => by cases h)⟩
  · replace h9 := of_decide_eq_false h9
    refine aw_exit ?_
    refine th_e ?_
    refine th_e ?_
    refine in_hit ?_
    refine th_n ?_
    refine aw_seq ?_
    refine aw_reg ?_
    refine rs_mv rfl rfl ?_
    refine rs_mv rfl rfl ?_
    refine rs_nil fun _ => ?_
    refine th_n ?_
    refine aw_ret ?_
    (have hk2 : k = l.length := by omega
     rw [hk2, List.take_length]; exact ret_pure rfl rfl rfl (.inr rfl))

def mc29 : MC := (.seq (.reg [⟨(some 1), (.box 80 3 (.t 0)), none, []⟩, ⟨(some 2), (.alloc 80 3 [(.int .i64 0), (.int .i64 0), (.int .i64 0)]), none, []⟩, ⟨(some 3), (.mv (.c (.int .i64 0))), none, []⟩] false) (.seq (.reg [⟨(some 5), (.fa 0 (.t 1)), none, []⟩, ⟨(some 6), (.ld false 1 (.t 5)), none, [0]⟩, ⟨(some 7), (.fa 1 (.t 1)), none, []⟩, ⟨(some 8), (.ld false 1 (.t 7)), none, [2]⟩, ⟨(some 9), (.fa 2 (.t 1)), none, []⟩, ⟨(some 10), (.ld false 1 (.t 9)), none, [4]⟩, ⟨(some 11), (.bslice 3 1 [(.int .i64 0)] 3 [(0, (.t 6)), (1, (.t 8)), (2, (.t 10))]), none, [1, 3, 5]⟩, ⟨(some 12), (.call 104 [(.t 11)]), none, [6]⟩, ⟨(some 4), (.mv (.t 12)), none, [7, 7, 0, 1, 2, 3, 4, 5, 6, 7]⟩] false) (.seq (.seq (.reg [⟨(some 13), (.mv (.t 4)), none, []⟩, ⟨(some 14), (.bin .eql (.t 13) (.c (.int .i64 0))), none, [0]⟩] false) (.cond (.t 14) (.seq (.reg [⟨(some 15), (.build [(.int .i64 0), (.int .i64 0), (.int .i64 0)] []), none, []⟩, ⟨none, (.st 3 (.t 2) (.t 15)), none, [0, 0]⟩, ⟨(some 3), (.mv (.c (.int .i64 0))), none, [1, 0, 1]⟩] false) .ret) .skip)) (.seq (.reg [⟨(some 16), (.fa 0 (.t 1)), none, []⟩, ⟨(some 17), (.ld false 1 (.t 16)), none, [0]⟩, ⟨(some 18), (.mv (.t 4)), none, []⟩, ⟨(some 19), (.bin .quo (.t 17) (.t 18)), none, [1, 2]⟩, ⟨(some 20), (.fa 1 (.t 1)), none, []⟩, ⟨(some 21), (.ld false 1 (.t 20)), none, [4]⟩, ⟨(some 22), (.mv (.t 4)), none, []⟩, ⟨(some 23), (.bin .quo (.t 21) (.t 22)), none, [5, 6]⟩, ⟨(some 24), (.fa 2 (.t 1)), none, []⟩, ⟨(some 25), (.ld false 1 (.t 24)), none, [8]⟩, ⟨(some 26), (.mv (.t 4)), none, []⟩, ⟨(some 27), (.bin .quo (.t 25) (.t 26)), none, [9, 10]⟩, ⟨(some 28), (.build [(.int .i64 0), (.int .i64 0), (.int .i64 0)] [(0, (1, (.t 19))), (1, (1, (.t 23))), (2, (1, (.t 27)))]), none, [3, 7, 11]⟩, ⟨(some 29), (.mv (.t 4)), none, []⟩, ⟨none, (.st 3 (.t 2) (.t 28)), none, [12, 0, 1, 2, 3, 4, 5, 6, 7, 8, 9, 10, 11, 12]⟩, ⟨(some 3), (.mv (.t 29)), none, [13, 14, 0, 1, 2, 3, 4, 5, 6, 7, 8, 9, 10, 11, 12, 13, 14]⟩] true) .ret))))
theorem mcOk29 : (match Try.f100.body with | some c => compC Try.prog 30 c | none => none) = some mc29 := by kernel_rfl

theorem fc29 (v : V3) (hb : Bd 1000000 v) : FC Try.prog 100 [aV v] [] (.tup [aV (primV v), iv (gS v : Int)]) [] false := by
  refine fc_run (nt := 30) Try.func100 rfl rfl mcOk29 (Nat.le_of_ble_eq_true rfl) ?_
  delta mc29
  refine aw_seq ?_
  refine aw_reg ?_
  refine rs_box rfl rfl rfl rfl rfl rfl ?_
  refine rs_alloc rfl rfl rfl ?_
  refine rs_mv rfl rfl ?_
  refine rs_nil fun _ => ?_
  refine th_n ?_
  refine aw_seq ?_
  refine aw_reg ?_
  refine rs_fa_p rfl rfl ?_
  refine rs_ld_p rfl rfl rfl rfl rfl ?_
  refine rs_fa_p rfl rfl ?_
  refine rs_ld_p rfl rfl rfl rfl rfl ?_
  refine rs_fa_p rfl rfl ?_
  refine rs_ld_p rfl rfl rfl rfl rfl ?_
  refine rs_bslice rfl rfl rfl rfl rfl rfl ?_
  refine rs_calln [11] rfl rfl (fc46 [v.x, v.y, v.z] (fun x hx => by have := hb.x; have := hb.y; have := hb.z; simp at hx; rcases hx with rfl | rfl | rfl <;> assumption) (Nat.le_of_ble_eq_true rfl)) (.cons (hv_sl (by simp) rfl (Nat.le_of_ble_eq_true rfl) rfl) (.nil)) rfl ?_
  refine rs_mv rfl rfl ?_
  refine rs_nil fun _ => ?_
  refine th_n ?_
  refine aw_seq ?_
  refine aw_seq ?_
  refine aw_reg ?_
  refine rs_mv rfl rfl ?_
  refine rs_eql rfl rfl rfl ?_
  refine rs_nil fun _ => ?_
  refine th_n ?_
  refine aw_cond rfl (fun h14 => ?_) (fun h14 => ?_)
  · replace h14 := of_decide_eq_true h14
    have hg0 : gS v = 0 := by have : (gL [v.x, v.y, v.z] : Int) = 0 := h14; unfold gS; omega
    rw [show primV v = ⟨0, 0, 0⟩ from if_pos hg0, hg0]
    refine aw_seq ?_
    refine aw_reg ?_
    refine rs_build rfl rfl ?_
    refine rs_st rfl rfl rfl rfl rfl rfl rfl (Nat.le_of_ble_eq_true rfl) rfl rfl ?_
    refine rs_mv rfl rfl ?_
    refine rs_nil fun _ => ?_
    refine th_n ?_
    refine aw_ret ?_
    refine th_r ?_
    exact ret_pure rfl rfl rfl (.inr rfl)
  · replace h14 := of_decide_eq_false h14
    have hg0 : gS v ≠ 0 := fun e => h14 (by unfold gS at e; rw [e]; rfl)
    rw [show primV v = ⟨v.x.tdiv (gS v), v.y.tdiv (gS v), v.z.tdiv (gS v)⟩ from if_neg hg0]
    have hg1 : ((gL [v.x, v.y, v.z] : Nat) : Int) ≠ 0 := by unfold gS at hg0; omega
    refine aw_skip ?_
    refine th_n ?_
    refine aw_seq ?_
    refine aw_draw hmix ?_
    refine rs_fa_p rfl rfl ?_
    refine rs_ld_p rfl rfl rfl rfl rfl ?_
    refine rs_mv rfl rfl ?_
    refine rs_quow rfl rfl rfl hg1 (tdivW hb.x) ?_
    refine rs_fa_p rfl rfl ?_
    refine rs_ld_p rfl rfl rfl rfl rfl ?_
    refine rs_mv rfl rfl ?_
    refine rs_quow rfl rfl rfl hg1 (tdivW hb.y) ?_
    refine rs_fa_p rfl rfl ?_
    refine rs_ld_p rfl rfl rfl rfl rfl ?_
    refine rs_mv rfl rfl ?_
    refine rs_quow rfl rfl rfl hg1 (tdivW hb.z) ?_
    refine rs_build rfl rfl ?_
    refine rs_mv rfl rfl ?_
    refine rs_st rfl rfl rfl rfl rfl rfl rfl (Nat.le_of_ble_eq_true rfl) rfl rfl ?_
    refine rs_mv rfl rfl ?_
    refine rs_nil ⟨by kernel_rfl, fun _ => ?_⟩
    refine th_n ?_
    refine aw_ret ?_
    exact ret_pure rfl rfl rfl (.inr rfl)

def mc47 : MC := (.seq (.reg [⟨(some 1), (.box 80 3 (.t 0)), none, []⟩, ⟨(some 2), (.alloc 112 3 [(.int .i64 0), (.int .i64 0), (.int .i64 0)]), none, []⟩] false) (.seq (.reg [⟨(some 3), (.fa 0 (.t 1)), none, []⟩, ⟨(some 4), (.ld false 1 (.t 3)), none, [0]⟩, ⟨(some 5), (.fa 1 (.t 1)), none, []⟩, ⟨(some 6), (.ld false 1 (.t 5)), none, [2]⟩, ⟨(some 7), (.fa 2 (.t 1)), none, []⟩, ⟨(some 8), (.ld false 1 (.t 7)), none, [4]⟩, ⟨(some 9), (.build [(.int .i64 0), (.int .i64 0), (.int .i64 0)] [(0, (1, (.t 4))), (1, (1, (.t 6))), (2, (1, (.t 8)))]), none, [1, 3, 5]⟩, ⟨none, (.st 3 (.t 2) (.t 9)), none, [6, 0, 1, 2, 3, 4, 5, 6]⟩] false) .ret))
theorem mcOk47 : (match Try.f74.body with | some c => compC Try.prog 10 c | none => none) = some mc47 := by kernel_rfl

theorem fc47 (v : V3) : FC Try.prog 74 [aV v] [] (aV v) [] false := by
  refine fc_run (nt := 10) Try.func74 rfl rfl mcOk47 (Nat.le_of_ble_eq_true rfl) ?_
  delta mc47
  refine aw_seq ?_
  refine aw_reg ?_
  refine rs_box rfl rfl rfl rfl rfl rfl ?_
  refine rs_alloc rfl rfl rfl ?_
  refine rs_nil fun _ => ?_
  refine th_n ?_
  refine aw_seq ?_
  refine aw_reg ?_
  refine rs_fa_p rfl rfl ?_
  refine rs_ld_p rfl rfl rfl rfl rfl ?_
  refine rs_fa_p rfl rfl ?_
  refine rs_ld_p rfl rfl rfl rfl rfl ?_
  refine rs_fa_p rfl rfl ?_
  refine rs_ld_p rfl rfl rfl rfl rfl ?_
  refine rs_build rfl rfl ?_
  refine rs_st rfl rfl rfl rfl rfl rfl rfl (Nat.le_of_ble_eq_true rfl) rfl rfl ?_
  refine rs_nil fun _ => ?_
  refine th_n ?_
  refine aw_ret ?_
  exact ret_pure rfl rfl rfl (.inr rfl)

def mc32 : MC := (.seq (.reg [⟨(some 1), (.box 80 3 (.t 0)), none, []⟩, ⟨(some 2), (.alloc 80 3 [(.int .i64 0), (.int .i64 0), (.int .i64 0)]), none, []⟩, ⟨(some 3), (.mv (.c (.int .i64 0))), none, []⟩] false) (.seq (.reg [⟨(some 8), (.ld true 3 (.t 1)), none, []⟩, ⟨(some 9), (.call 74 [(.t 8)]), none, [0]⟩, ⟨(some 4), (.alloc 112 3 [(.int .i64 0), (.int .i64 0), (.int .i64 0)]), none, []⟩, ⟨none, (.st 3 (.t 4) (.t 9)), none, [2, 1, 1, 0, 1, 2]⟩] false) (.seq (.reg [⟨(some 5), (.mv (.c (.int .i64 0))), none, []⟩] false) (.seq (.seq (.reg [⟨(some 6), (.mv (.c (.int .i64 0))), none, []⟩] false) (.block 0 (.loop (.seq (.seq (.reg [⟨(some 10), (.mv (.t 6)), none, []⟩, ⟨(some 11), (.bin .lss (.t 10) (.c (.int .i64 3))), none, [0]⟩] false) (.cond (.t 11) .skip (.exit 0))) (.seq (.block 1 (.seq (.seq (.reg [⟨(some 14), (.mv (.t 6)), none, []⟩, ⟨(some 15), (.ixarr 3 1 (.t 4) (.t 14)), none, [0]⟩, ⟨(some 16), (.ld false 1 (.t 15)), none, [1]⟩, ⟨(some 17), (.bin .eql (.t 16) (.c (.int .i64 (-9223372036854775808)))), none, [2]⟩] false) (.cond (.t 17) (.seq (.reg [⟨(some 18), (.build [(.int .i64 0), (.int .i64 0), (.int .i64 0)] []), none, []⟩, ⟨none, (.st 3 (.t 2) (.t 18)), none, [0, 0]⟩, ⟨(some 3), (.mv (.c (.int .i64 0))), none, [1, 0, 1]⟩] false) .ret) .skip)) (.seq (.reg [⟨(some 19), (.mv (.t 6)), none, []⟩, ⟨(some 20), (.ixarr 3 1 (.t 4) (.t 19)), none, [0]⟩, ⟨(some 21), (.ld false 1 (.t 20)), none, [1]⟩, ⟨(some 22), (.call 80 [(.t 21)]), none, [2]⟩, ⟨(some 7), (.mv (.t 22)), none, [3, 3, 0, 1, 2, 3]⟩] false) (.block 2 (.loop (.seq (.seq (.reg [⟨(some 23), (.mv (.t 7)), none, []⟩, ⟨(some 24), (.bin .gtr (.t 23) (.c (.int .i64 0))), none, [0]⟩] false) (.cond (.t 24) .skip (.exit 2))) (.block 3 (.reg [⟨(some 25), (.mv (.t 7)), none, []⟩, ⟨(some 26), (.mv (.t 5)), none, []⟩, ⟨(some 27), (.mv (.t 7)), none, []⟩, ⟨(some 28), (.bin .rem (.t 26) (.t 27)), none, [1, 2]⟩, ⟨(some 5), (.mv (.t 25)), none, [0, 0, 1]⟩, ⟨(some 7), (.mv (.t 28)), none, [3, 4, 0, 1, 2, 3, 4]⟩] true)))))))) (.reg [⟨(some 12), (.mv (.t 6)), none, []⟩, ⟨(some 13), (.bin .add (.t 12) (.c (.int .i64 1))), none, [0]⟩, ⟨(some 6), (.mv (.t 13)), none, [1, 0, 1]⟩] false)))))) (.seq (.seq (.reg [⟨(some 29), (.mv (.t 5)), none, []⟩, ⟨(some 30), (.bin .eql (.t 29) (.c (.int .i64 0))), none, [0]⟩] false) (.cond (.t 30) (.seq (.reg [⟨(some 31), (.build [(.int .i64 0), (.int .i64 0), (.int .i64 0)] []), none, []⟩, ⟨none, (.st 3 (.t 2) (.t 31)), none, [0, 0]⟩, ⟨(some 3), (.mv (.c (.int .i64 0))), none, [1, 0, 1]⟩] false) .ret) .skip)) (.seq (.reg [⟨(some 32), (.fa 0 (.t 1)), none, []⟩, ⟨(some 33), (.ld false 1 (.t 32)), none, [0]⟩, ⟨(some 34), (.mv (.t 5)), none, []⟩, ⟨(some 35), (.bin .quo (.t 33) (.t 34)), none, [1, 2]⟩, ⟨(some 36), (.fa 1 (.t 1)), none, []⟩, ⟨(some 37), (.ld false 1 (.t 36)), none, [4]⟩, ⟨(some 38), (.mv (.t 5)), none, []⟩, ⟨(some 39), (.bin .quo (.t 37) (.t 38)), none, [5, 6]⟩, ⟨(some 40), (.fa 2 (.t 1)), none, []⟩, ⟨(some 41), (.ld false 1 (.t 40)), none, [8]⟩, ⟨(some 42), (.mv (.t 5)), none, []⟩, ⟨(some 43), (.bin .quo (.t 41) (.t 42)), none, [9, 10]⟩, ⟨(some 44), (.build [(.int .i64 0), (.int .i64 0), (.int .i64 0)] [(0, (1, (.t 35))), (1, (1, (.t 39))), (2, (1, (.t 43)))]), none, [3, 7, 11]⟩, ⟨(some 45), (.mv (.t 5)), none, []⟩, ⟨none, (.st 3 (.t 2) (.t 44)), none, [12, 0, 1, 2, 3, 4, 5, 6, 7, 8, 9, 10, 11, 12]⟩, ⟨(some 3), (.mv (.t 45)), none, [13, 14, 0, 1, 2, 3, 4, 5, 6, 7, 8, 9, 10, 11, 12, 13, 14]⟩] true) .ret))))))
theorem mcOk32 : (match Try.f77.body with | some c => compC Try.prog 46 c | none => none) = some mc32 := by kernel_rfl

theorem fc32 (v : V3) (hb : Bd 1000000 v) : FC Try.prog 77 [aV v] [] (.tup [aV (primV v), iv (gS v : Int)]) [] false := by
  have hl : ∀ x ∈ [v.x, v.y, v.z], -1000000 ≤ x ∧ x ≤ 1000000 := fun x hx => by have := hb.x; have := hb.y; have := hb.z; simp at hx; rcases hx with rfl | rfl | rfl <;> assumption
  refine fc_run (nt := 46) Try.func77 rfl rfl mcOk32 (Nat.le_of_ble_eq_true rfl) ?_
  delta mc32
  refine aw_seq ?_
  refine aw_reg ?_
  refine rs_box rfl rfl rfl rfl rfl rfl ?_
  refine rs_alloc rfl rfl rfl ?_
  refine rs_mv rfl rfl ?_
  refine rs_nil fun _ => ?_
  refine th_n ?_
  refine aw_seq ?_
  refine aw_reg ?_
  refine rs_ld_pa rfl rfl rfl rfl (Nat.le_of_ble_eq_true rfl) rfl ?_
  refine rs_calln [] rfl rfl (fc47 v) (.cons (hv_same rfl) (.nil)) rfl ?_
  refine rs_alloc rfl rfl rfl ?_
  refine rs_st rfl rfl rfl rfl rfl rfl rfl (Nat.le_of_ble_eq_true rfl) rfl rfl ?_
  refine rs_nil fun _ => ?_
  refine th_n ?_
  refine aw_seq ?_
  refine aw_reg ?_
  refine rs_mv rfl rfl ?_
  refine rs_nil fun _ => ?_
  refine th_n ?_
  refine aw_seq ?_
  refine aw_seq ?_
  refine aw_reg ?_
  refine rs_mv rfl rfl ?_
  refine rs_nil fun _ => ?_
  refine th_n ?_
  refine aw_block ?_
  refine aw_fam (α := Nat) (fun k => 3 - k) (fun k => [(1, .ptr 1 0 0), (2, .ptr 2 0 0), (4, .ptr 4 0 0), (5, iv ((gL ([v.x, v.y, v.z].take k) : Nat) : Int)), (6, iv (((k) : Nat) : Int))]) (fun k => [(1, .cells 80 3 [cV v] true), (2, .cells 80 3 [cV ⟨0, 0, 0⟩] true), (4, .cells 112 3 [[v.x, v.y, v.z].map (AV.int .i64)] true)]) (fun k => k ≤ 3) 0 (by omega)
    (weak_to (.cons rfl (rc_same rfl (.inl rfl)) (.cons rfl (rc_same rfl (.inl rfl)) (.cons rfl (rc_same rfl (.inl rfl)) (.cons rfl (rc_same rfl (.inl rfl)) (.cons rfl (rc_same rfl (.inl rfl)) (.nil)))))) (.keep (rfl) rfl (.keep (rfl) rfl (.keep (rfl) rfl (.nil)))) (fun i h => by cases h)) ?_
  intro k hk
  refine aw_seq ?_
  refine aw_seq ?_
  refine aw_reg ?_
  refine rs_mv rfl rfl ?_
  refine rs_lss rfl rfl rfl ?_
  refine rs_nil fun _ => ?_
  refine th_n ?_
  refine aw_cond rfl (fun h11 => ?_) (fun h11 => ?_)
  · replace h11 := of_decide_eq_true h11
    refine aw_skip ?_
    refine th_n ?_
    refine aw_seq ?_
    refine aw_block ?_
    refine aw_seq ?_
    refine aw_seq ?_
    refine aw_reg ?_
    refine rs_mv rfl rfl ?_
    obtain ⟨x, hx, hxm⟩ := at_some (L := [v.x, v.y, v.z]) (k := k) (by simp; omega)
    have hbx := hl x hxm
    refine rs_ixarr_p rfl rfl rfl (by omega) (by omega) ?_
    refine rs_ld_f (L := [v.x, v.y, v.z]) (f := AV.int .i64) (k := k) rfl rfl rfl (by simp) hx ?_
    refine rs_eql rfl rfl rfl ?_
    refine rs_nil fun _ => ?_
    refine th_n ?_
    refine aw_cond rfl (fun h17 => ?_) (fun h17 => ?_)
    · replace h17 := of_decide_eq_true h17
      refine aw_seq ?_
      refine aw_reg ?_
      refine rs_build rfl rfl ?_
      refine rs_st rfl rfl rfl rfl rfl rfl rfl (Nat.le_of_ble_eq_true rfl) rfl rfl ?_
      refine rs_mv rfl rfl ?_
      refine rs_nil fun _ => ?_
      refine th_n ?_
      refine aw_ret ?_
      refine th_r ?_
      refine in_r ?_
      refine th_r ?_
      refine th_r ?_
      refine in_r ?_
      refine th_r ?_
      (exfalso; omega)
    · replace h17 := of_decide_eq_false h17
      refine aw_skip ?_
      refine th_n ?_
      refine aw_seq ?_
      refine aw_reg ?_
      refine rs_mv rfl rfl ?_
      refine rs_ixarr_p rfl rfl rfl (by omega) (by omega) ?_
      refine rs_ld_f (L := [v.x, v.y, v.z]) (f := AV.int .i64) (k := k) rfl rfl rfl (by simp) hx ?_
      refine rs_calln [] rfl rfl (fc48 x (hl x hxm)) (.cons (hv_same rfl) (.nil)) rfl ?_
      refine rs_mv rfl rfl ?_
      refine rs_nil fun _ => ?_
      refine th_n ?_
      refine aw_block ?_
      refine aw_fam (α := Nat × Nat) (fun a => a.2) (fun a => [(1, .ptr 1 0 0), (2, .ptr 2 0 0), (4, .ptr 4 0 0), (5, iv ((a.1 : Nat) : Int)), (6, iv (((k) : Nat) : Int)), (7, iv (a.2 : Int))]) (fun a => [(1, .cells 80 3 [cV v] true), (2, .cells 80 3 [cV ⟨0, 0, 0⟩] true), (4, .cells 112 3 [[v.x, v.y, v.z].map (AV.int .i64)] true)]) (fun a => Nat.gcd a.1 a.2 = gL ([v.x, v.y, v.z].take (k + 1))) (gL ([v.x, v.y, v.z].take k), x.natAbs) ((gL_succ hx).symm)
        (weak_to (.cons rfl (rc_same rfl (.inl rfl)) (.cons rfl (rc_same rfl (.inl rfl)) (.cons rfl (rc_same rfl (.inl rfl)) (.cons rfl (rc_same rfl (.inl rfl)) (.cons rfl (rc_same rfl (.inl rfl)) (.cons rfl (rc_same rfl (.inl rfl)) (.nil))))))) (.keep (rfl) rfl (.keep (rfl) rfl (.keep (rfl) rfl (.nil)))) (fun i h => by cases h)) ?_
      rintro ⟨g, n⟩ hg
      dsimp only at hg ⊢
      refine aw_seq ?_
      refine aw_seq ?_
      refine aw_reg ?_
      refine rs_mv rfl rfl ?_
      refine rs_gtr rfl rfl rfl ?_
      refine rs_nil fun _ => ?_
      refine th_n ?_
      refine aw_cond rfl (fun h24 => ?_) (fun h24 => ?_)
      · replace h24 := of_decide_eq_true h24
        refine aw_skip ?_
        refine th_n ?_
        refine aw_block ?_
        refine aw_draw hmix ?_
        refine rs_mv rfl rfl ?_
        refine rs_mv rfl rfl ?_
        refine rs_mv rfl rfl ?_
        refine rs_rem rfl rfl rfl (by omega) (tmod_nat g n) ?_
        refine rs_mv rfl rfl ?_
        refine rs_mv rfl rfl ?_
        refine rs_nil ⟨by kernel_rfl, fun _ => ?_⟩
        refine in_n ?_
        refine th_n ?_
        exact ⟨(n, g % n), by rw [← hg]; exact gcd_step g n, Nat.mod_lt _ (by omega), weak_to (.cons rfl (rc_same rfl (.inl rfl)) (.cons rfl (rc_same rfl (.inl rfl)) (.cons rfl (rc_same rfl (.inl rfl)) (.cons rfl (rc_same rfl (.inl rfl)) (.cons rfl (rc_same rfl (.inl rfl)) (.cons rfl (rc_same rfl (.inl rfl)) (.nil))))))) (.keep (rfl) rfl (.keep (rfl) rfl (.keep (rfl) rfl (.nil)))) (fun i h => by cases h)⟩
      · replace h24 := of_decide_eq_false h24
        refine aw_exit ?_
        refine th_e ?_
        refine th_e ?_
        refine in_hit ?_
        refine in_n ?_
        refine th_n ?_
        refine aw_reg ?_
        refine rs_mv rfl rfl ?_
        refine rs_add rfl rfl rfl (by omega) ?_
        refine rs_mv rfl rfl ?_
        refine rs_nil fun _ => ?_
        refine th_n ?_
        have hn0 : n = 0 := by omega
        rw [hn0, Nat.gcd_zero_right] at hg
        subst hg
        exact ⟨k + 1, by omega, by omega, weak_to (.cons rfl (rc_same rfl (.inl rfl)) (.cons rfl (rc_same rfl (.inl rfl)) (.cons rfl (rc_same rfl (.inl rfl)) (.cons rfl (rc_same rfl (.inl rfl)) (.cons rfl (rc_same rfl (.inl rfl)) (.nil)))))) (.keep (rfl) rfl (.keep (rfl) rfl (.keep (rfl) rfl (.nil)))) (fun i h => by cases h)⟩
  · replace h11 := of_decide_eq_false h11
    refine aw_exit ?_
    refine th_e ?_
    refine th_e ?_
    refine in_hit ?_
    refine th_n ?_
    refine aw_seq ?_
    refine aw_seq ?_
    refine aw_reg ?_
    refine rs_mv rfl rfl ?_
    refine rs_eql rfl rfl rfl ?_
    refine rs_nil fun _ => ?_
    refine th_n ?_
    refine aw_cond rfl (fun h30 => ?_) (fun h30 => ?_)
    · replace h30 := of_decide_eq_true h30
      obtain rfl : k = 3 := by omega
      replace h30 : ((gL [v.x, v.y, v.z] : Nat) : Int) = 0 := h30
      have hg0 : gS v = 0 := by have : (gL [v.x, v.y, v.z] : Int) = 0 := h30; unfold gS; omega
      rw [show primV v = ⟨0, 0, 0⟩ from if_pos hg0, hg0]
      refine aw_seq ?_
      refine aw_reg ?_
      refine rs_build rfl rfl ?_
      refine rs_st rfl rfl rfl rfl rfl rfl rfl (Nat.le_of_ble_eq_true rfl) rfl rfl ?_
      refine rs_mv rfl rfl ?_
      refine rs_nil fun _ => ?_
      refine th_n ?_
      refine aw_ret ?_
      refine th_r ?_
      exact ret_pure rfl rfl rfl (.inr rfl)
    · replace h30 := of_decide_eq_false h30
      obtain rfl : k = 3 := by omega
      replace h30 : ¬ ((gL [v.x, v.y, v.z] : Nat) : Int) = 0 := h30
      have hg0 : gS v ≠ 0 := fun e => h30 (by unfold gS at e; rw [e]; rfl)
      rw [show primV v = ⟨v.x.tdiv (gS v), v.y.tdiv (gS v), v.z.tdiv (gS v)⟩ from if_neg hg0]
      have hg1 : ((gL [v.x, v.y, v.z] : Nat) : Int) ≠ 0 := by unfold gS at hg0; omega
      refine aw_skip ?_
      refine th_n ?_
      refine aw_seq ?_
      refine aw_draw hmix ?_
      refine rs_fa_p rfl rfl ?_
      refine rs_ld_p rfl rfl rfl rfl rfl ?_
      refine rs_mv rfl rfl ?_
      refine rs_quow rfl rfl rfl hg1 (tdivW hb.x) ?_
      refine rs_fa_p rfl rfl ?_
      refine rs_ld_p rfl rfl rfl rfl rfl ?_
      refine rs_mv rfl rfl ?_
      refine rs_quow rfl rfl rfl hg1 (tdivW hb.y) ?_
      refine rs_fa_p rfl rfl ?_
      refine rs_ld_p rfl rfl rfl rfl rfl ?_
      refine rs_mv rfl rfl ?_
      refine rs_quow rfl rfl rfl hg1 (tdivW hb.z) ?_
      refine rs_build rfl rfl ?_
      refine rs_mv rfl rfl ?_
      refine rs_st rfl rfl rfl rfl rfl rfl rfl (Nat.le_of_ble_eq_true rfl) rfl rfl ?_
      refine rs_mv rfl rfl ?_
      refine rs_nil ⟨by kernel_rfl, fun _ => ?_⟩
      refine th_n ?_
      refine aw_ret ?_
      exact ret_pure rfl rfl rfl (.inr rfl)

def mc49 : MC := (.seq (.reg [⟨(some 4), (.mv (.c (.bool false))), none, []⟩] false) (.seq (.seq (.reg [⟨(some 7), (.mv (.t 1)), none, []⟩, ⟨(some 8), (.len (.t 7)), none, [0]⟩, ⟨(some 9), (.mv (.c (.int .i64 0))), none, []⟩] false) (.block 0 (.loop (.seq (.reg [⟨(some 10), (.bin .lss (.t 9) (.t 8)), none, []⟩] false) (.seq (.cond (.t 10) .skip (.exit 0)) (.seq (.block 1 (.seq (.reg [⟨(some 11), (.ixsl 1 (.t 7) (.t 9)), none, []⟩, ⟨(some 12), (.ld false 1 (.t 11)), none, [0]⟩, ⟨(some 6), (.mv (.t 12)), none, [1, 0, 1]⟩] false) (.seq (.reg [⟨(some 13), (.mv (.t 6)), none, []⟩, ⟨(some 14), (.mv (.t 0)), none, []⟩, ⟨(some 15), (.un .neg (.t 14)), none, [1]⟩, ⟨(some 16), (.bin .lss (.t 13) (.t 15)), none, [0, 2]⟩, ⟨(some 17), (.mv (.t 16)), none, [3]⟩, ⟨(some 18), (.mv (.t 6)), (some (17, false)), [4]⟩, ⟨(some 19), (.mv (.t 0)), (some (17, false)), [4]⟩, ⟨(some 20), (.bin .gtr (.t 18) (.t 19)), (some (17, false)), [5, 6, 4]⟩, ⟨(some 21), (.pick (.t 17) (.c (.bool true)) (.t 20)), none, [4, 7]⟩] false) (.cond (.t 21) (.seq (.reg [⟨(some 4), (.mv (.c (.bool false))), none, []⟩] false) .ret) .skip)))) (.reg [⟨(some 22), (.bin .add (.t 9) (.c (.int .i64 1))), none, []⟩, ⟨(some 9), (.mv (.t 22)), none, [0]⟩] false))))))) (.seq (.reg [⟨(some 4), (.mv (.c (.bool true))), none, []⟩] false) .ret)))
theorem mcOk49 : (match Try.f73.body with | some c => compC Try.prog 23 c | none => none) = some mc49 := by kernel_rfl

theorem fc49 (m : Int) (l : List Int) (hm : 0 ≤ m ∧ m ≤ 1000000) (hn : l.length ≤ 1000) : FC Try.prog 73 [iv m, ints l] [] (.bool (withinS m l)) [] false := by
  refine fc_run (nt := 23) Try.func73 rfl rfl mcOk49 (Nat.le_of_ble_eq_true rfl) ?_
  delta mc49
  refine aw_seq ?_
  refine aw_reg ?_
  refine rs_mv rfl rfl ?_
  refine rs_nil fun _ => ?_
  refine th_n ?_
  refine aw_seq ?_
  refine aw_seq ?_
  refine aw_reg ?_
  refine rs_mv rfl rfl ?_
  refine rs_len_m rfl rfl ?_
  refine rs_mv rfl rfl ?_
  refine rs_nil fun _ => ?_
  refine th_n ?_
  refine aw_block ?_
  refine aw_fam (α := Nat) (fun k => l.length - k) (fun k => [(0, iv m), (7, ints l), (8, iv (l.length : Int)), (9, iv (((k) : Nat) : Int))]) (fun k => []) (fun k => k ≤ l.length ∧ ∀ j n, j < k → l[j]? = some n → -m ≤ n ∧ n ≤ m) 0 (⟨by omega, fun j n h => by omega⟩)
    (weak_to (.cons rfl (rc_same rfl (.inl rfl)) (.cons rfl (rc_same rfl (.inl rfl)) (.cons rfl (rc_same rfl (.inl rfl)) (.cons rfl (rc_same rfl (.inl rfl)) (.nil))))) (.nil) (fun i h => by cases h)) ?_
  rintro k ⟨hk, hall⟩
  refine aw_seq ?_
  refine aw_reg ?_
  refine rs_lss rfl rfl rfl ?_
  refine rs_nil fun _ => ?_
  refine th_n ?_
  refine aw_seq ?_
  refine aw_cond rfl (fun h10 => ?_) (fun h10 => ?_)
  · replace h10 := of_decide_eq_true h10
    refine aw_skip ?_
    refine th_n ?_
    refine aw_seq ?_
    refine aw_block ?_
    refine aw_seq ?_
    refine aw_reg ?_
    obtain ⟨x, hx, hxm⟩ := at_some (L := l) (k := k) (by omega)
    refine rs_ix_g rfl rfl rfl (by omega) hx ?_
    refine rs_ld_r rfl rfl rfl ?_
    refine rs_mv rfl rfl ?_
    refine rs_nil fun _ => ?_
    refine th_n ?_
    refine aw_seq ?_
    refine aw_reg ?_
    refine rs_mv rfl rfl ?_
    refine rs_mv rfl rfl ?_
    refine rs_neg rfl rfl (by omega) ?_
    refine rs_cmp rfl rfl rfl rfl (fun h16 => ?_) (fun h16 => ?_)
    · skip
      refine rs_mv rfl rfl ?_
      refine rs_skip rfl ?_
      refine rs_skip rfl ?_
      refine rs_skip rfl ?_
      refine rs_pick rfl rfl rfl ?_
      refine rs_nil fun _ => ?_
      refine th_n ?_
      refine aw_cond rfl (fun _ => ?_) (fun h => by cases h)
      refine aw_seq ?_
      refine aw_reg ?_
      refine rs_mv rfl rfl ?_
      refine rs_nil fun _ => ?_
      refine th_n ?_
      refine aw_ret ?_
      refine in_r ?_
      refine th_r ?_
      refine th_r ?_
      refine in_r ?_
      refine th_r ?_
      exact ret_pure rfl (congrArg AV.bool ((within_f hx (by omega)).symm)) rfl (.inr rfl)
    · skip
      refine rs_mv rfl rfl ?_
      refine rs_mv rfl rfl ?_
      refine rs_mv rfl rfl ?_
      refine rs_cmp rfl rfl rfl rfl (fun h20 => ?_) (fun h20 => ?_)
      · skip
        refine rs_pick rfl rfl rfl ?_
        refine rs_nil fun _ => ?_
        refine th_n ?_
        refine aw_cond rfl (fun _ => ?_) (fun h => by cases h)
        refine aw_seq ?_
        refine aw_reg ?_
        refine rs_mv rfl rfl ?_
        refine rs_nil fun _ => ?_
        refine th_n ?_
        refine aw_ret ?_
        refine in_r ?_
        refine th_r ?_
        refine th_r ?_
        refine in_r ?_
        refine th_r ?_
        exact ret_pure rfl (congrArg AV.bool ((within_f hx (by omega)).symm)) rfl (.inr rfl)
      · skip
        refine rs_pick rfl rfl rfl ?_
        refine rs_nil fun _ => ?_
        refine th_n ?_
        refine aw_cond rfl (fun h => by cases h) (fun _ => ?_)
        refine aw_skip ?_
        refine in_n ?_
        refine th_n ?_
        refine aw_reg ?_
        refine rs_add rfl rfl rfl (by omega) ?_
        refine rs_mv rfl rfl ?_
        refine rs_nil fun _ => ?_
        refine th_n ?_
        exact ⟨k + 1, ⟨by omega, fun j n hj hjn => by
          by_cases e : j = k
          · subst e; rw [hx] at hjn; injection hjn with hjn; subst hjn; omega
          · exact hall j n (by omega) hjn⟩, by omega, weak_to (.cons rfl (rc_same rfl (.inl rfl)) (.cons rfl (rc_same rfl (.inl rfl)) (.cons rfl (rc_same rfl (.inl rfl)) (.cons rfl (rc_same rfl (.inl rfl)) (.nil))))) (.nil) (fun i h => by cases h)⟩
  · replace h10 := of_decide_eq_false h10
    refine aw_exit ?_
    refine th_e ?_
    refine th_e ?_
    refine in_hit ?_
    refine th_n ?_
    refine aw_seq ?_
    refine aw_reg ?_
    refine rs_mv rfl rfl ?_
    refine rs_nil fun _ => ?_
    refine th_n ?_
    refine aw_ret ?_
    exact ret_pure rfl (congrArg AV.bool ((within_t fun j n hj => hall j n (by have := lt_of_at hj; omega) hj).symm)) rfl (.inr rfl)

def mc40 : MC := (.seq (.reg [⟨(some 1), (.box 80 3 (.t 0)), none, []⟩, ⟨(some 2), (.mv (.c (.bool false))), none, []⟩] false) (.seq (.reg [⟨(some 3), (.fa 0 (.t 1)), none, []⟩, ⟨(some 4), (.ld false 1 (.t 3)), none, [0]⟩, ⟨(some 5), (.fa 1 (.t 1)), none, []⟩, ⟨(some 6), (.ld false 1 (.t 5)), none, [2]⟩, ⟨(some 7), (.fa 2 (.t 1)), none, []⟩, ⟨(some 8), (.ld false 1 (.t 7)), none, [4]⟩, ⟨(some 9), (.bslice 3 1 [(.int .i64 0)] 3 [(0, (.t 4)), (1, (.t 6)), (2, (.t 8))]), none, [1, 3, 5]⟩, ⟨(some 10), (.call 73 [(.c (.int .i64 24)), (.t 9)]), none, [6]⟩, ⟨(some 2), (.mv (.t 10)), none, [7, 7, 0, 1, 2, 3, 4, 5, 6, 7]⟩] false) .ret))
theorem mcOk40 : (match Try.f64.body with | some c => compC Try.prog 11 c | none => none) = some mc40 := by kernel_rfl

theorem fc40 (v : V3) : FC Try.prog 64 [aV v] [] (.bool (inS v)) [] false := by
  refine fc_run (nt := 11) Try.func64 rfl rfl mcOk40 (Nat.le_of_ble_eq_true rfl) ?_
  delta mc40
  refine aw_seq ?_
  refine aw_reg ?_
  refine rs_box rfl rfl rfl rfl rfl rfl ?_
  refine rs_mv rfl rfl ?_
  refine rs_nil fun _ => ?_
  refine th_n ?_
  refine aw_seq ?_
  refine aw_reg ?_
  refine rs_fa_p rfl rfl ?_
  refine rs_ld_p rfl rfl rfl rfl rfl ?_
  refine rs_fa_p rfl rfl ?_
  refine rs_ld_p rfl rfl rfl rfl rfl ?_
  refine rs_fa_p rfl rfl ?_
  refine rs_ld_p rfl rfl rfl rfl rfl ?_
  refine rs_bslice rfl rfl rfl rfl rfl rfl ?_
  refine rs_calln [9] rfl rfl (fc49 24 [v.x, v.y, v.z] (by omega) (Nat.le_of_ble_eq_true rfl)) (.cons (hv_same rfl) (.cons (hv_sl (by simp) rfl (Nat.le_of_ble_eq_true rfl) rfl) (.nil))) rfl ?_
  refine rs_mv rfl rfl ?_
  refine rs_nil fun _ => ?_
  refine th_n ?_
  refine aw_ret ?_
  exact ret_pure rfl rfl rfl (.inr rfl)

def mc41 : MC := (.seq (.reg [⟨(some 1), (.box 80 3 (.t 0)), none, []⟩, ⟨(some 2), (.mv (.c (.bool false))), none, []⟩] false) (.seq (.reg [⟨(some 5), (.ld true 3 (.t 1)), none, []⟩, ⟨(some 6), (.call 74 [(.t 5)]), none, [0]⟩, ⟨(some 3), (.alloc 112 3 [(.int .i64 0), (.int .i64 0), (.int .i64 0)]), none, []⟩, ⟨none, (.st 3 (.t 3) (.t 6)), none, [2, 1, 1, 0, 1, 2]⟩] false) (.seq (.seq (.reg [⟨(some 4), (.mv (.c (.int .i64 0))), none, []⟩] false) (.block 0 (.loop (.seq (.seq (.reg [⟨(some 7), (.mv (.t 4)), none, []⟩, ⟨(some 8), (.bin .lss (.t 7) (.c (.int .i64 3))), none, [0]⟩] false) (.cond (.t 8) .skip (.exit 0))) (.seq (.block 1 (.seq (.reg [⟨(some 11), (.mv (.t 4)), none, []⟩, ⟨(some 12), (.ixarr 3 1 (.t 3) (.t 11)), none, [0]⟩, ⟨(some 13), (.ld false 1 (.t 12)), none, [1]⟩, ⟨(some 14), (.bin .lss (.t 13) (.c (.int .i64 (-24)))), none, [2]⟩, ⟨(some 15), (.mv (.t 14)), none, [3]⟩, ⟨(some 16), (.mv (.t 4)), (some (15, false)), [4]⟩, ⟨(some 17), (.ixarr 3 1 (.t 3) (.t 16)), (some (15, false)), [5, 4]⟩, ⟨(some 18), (.ld false 1 (.t 17)), (some (15, false)), [6, 4]⟩, ⟨(some 19), (.bin .gtr (.t 18) (.c (.int .i64 24))), (some (15, false)), [7, 4]⟩, ⟨(some 20), (.pick (.t 15) (.c (.bool true)) (.t 19)), none, [4, 8]⟩] false) (.cond (.t 20) (.seq (.reg [⟨(some 2), (.mv (.c (.bool false))), none, []⟩] false) .ret) .skip))) (.reg [⟨(some 9), (.mv (.t 4)), none, []⟩, ⟨(some 10), (.bin .add (.t 9) (.c (.int .i64 1))), none, [0]⟩, ⟨(some 4), (.mv (.t 10)), none, [1, 0, 1]⟩] false)))))) (.seq (.reg [⟨(some 2), (.mv (.c (.bool true))), none, []⟩] false) .ret))))
theorem mcOk41 : (match Try.f65.body with | some c => compC Try.prog 21 c | none => none) = some mc41 := by kernel_rfl

theorem fc41 (v : V3) : FC Try.prog 65 [aV v] [] (.bool (inS v)) [] false := by
  refine fc_run (nt := 21) Try.func65 rfl rfl mcOk41 (Nat.le_of_ble_eq_true rfl) ?_
  delta mc41
  refine aw_seq ?_
  refine aw_reg ?_
  refine rs_box rfl rfl rfl rfl rfl rfl ?_
  refine rs_mv rfl rfl ?_
  refine rs_nil fun _ => ?_
  refine th_n ?_
  refine aw_seq ?_
  refine aw_reg ?_
  refine rs_ld_pa rfl rfl rfl rfl (Nat.le_of_ble_eq_true rfl) rfl ?_
  refine rs_calln [] rfl rfl (fc47 v) (.cons (hv_same rfl) (.nil)) rfl ?_
  refine rs_alloc rfl rfl rfl ?_
  refine rs_st rfl rfl rfl rfl rfl rfl rfl (Nat.le_of_ble_eq_true rfl) rfl rfl ?_
  refine rs_nil fun _ => ?_
  refine th_n ?_
  refine aw_seq ?_
  refine aw_seq ?_
  refine aw_reg ?_
  refine rs_mv rfl rfl ?_
  refine rs_nil fun _ => ?_
  refine th_n ?_
  refine aw_block ?_
  refine aw_fam (α := Nat) (fun k => 3 - k) (fun k => [(3, .ptr 3 0 0), (4, iv (((k) : Nat) : Int))]) (fun k => [(3, .cells 112 3 [[v.x, v.y, v.z].map (AV.int .i64)] true)]) (fun k => k ≤ 3 ∧ ∀ j n, j < k → [v.x, v.y, v.z][j]? = some n → -24 ≤ n ∧ n ≤ 24) 0 (⟨by omega, fun j n h => by omega⟩)
    (weak_to (.cons rfl (rc_same rfl (.inl rfl)) (.cons rfl (rc_same rfl (.inl rfl)) (.nil))) (.keep (rfl) rfl (.nil)) (fun i h => by cases h)) ?_
  rintro k ⟨hk, hall⟩
  refine aw_seq ?_
  refine aw_seq ?_
  refine aw_reg ?_
  refine rs_mv rfl rfl ?_
  refine rs_lss rfl rfl rfl ?_
  refine rs_nil fun _ => ?_
  refine th_n ?_
  refine aw_cond rfl (fun h8 => ?_) (fun h8 => ?_)
  · replace h8 := of_decide_eq_true h8
    refine aw_skip ?_
    refine th_n ?_
    refine aw_seq ?_
    refine aw_block ?_
    refine aw_seq ?_
    refine aw_reg ?_
    refine rs_mv rfl rfl ?_
    obtain ⟨x, hx, hxm⟩ := at_some (L := [v.x, v.y, v.z]) (k := k) (by simp; omega)
    refine rs_ixarr_p rfl rfl rfl (by omega) (by omega) ?_
    refine rs_ld_f (L := [v.x, v.y, v.z]) (f := AV.int .i64) (k := k) rfl rfl rfl (by simp) hx ?_
    refine rs_cmp rfl rfl rfl rfl (fun h14 => ?_) (fun h14 => ?_)
    · skip
      refine rs_mv rfl rfl ?_
      refine rs_skip rfl ?_
      refine rs_skip rfl ?_
      refine rs_skip rfl ?_
      refine rs_skip rfl ?_
      refine rs_pick rfl rfl rfl ?_
      refine rs_nil fun _ => ?_
      refine th_n ?_
      refine aw_cond rfl (fun _ => ?_) (fun h => by cases h)
      refine aw_seq ?_
      refine aw_reg ?_
      refine rs_mv rfl rfl ?_
      refine rs_nil fun _ => ?_
      refine th_n ?_
      refine aw_ret ?_
      refine in_r ?_
      refine th_r ?_
      refine th_r ?_
      refine in_r ?_
      refine th_r ?_
      exact ret_pure rfl (congrArg AV.bool ((within_f hx (by omega)).symm)) rfl (.inr rfl)
    · skip
      refine rs_mv rfl rfl ?_
      refine rs_mv rfl rfl ?_
      refine rs_ixarr_p rfl rfl rfl (by omega) (by omega) ?_
      refine rs_ld_f (L := [v.x, v.y, v.z]) (f := AV.int .i64) (k := k) rfl rfl rfl (by simp) hx ?_
      refine rs_cmp rfl rfl rfl rfl (fun h19 => ?_) (fun h19 => ?_)
      · skip
        refine rs_pick rfl rfl rfl ?_
        refine rs_nil fun _ => ?_
        refine th_n ?_
        refine aw_cond rfl (fun _ => ?_) (fun h => by cases h)
        refine aw_seq ?_
        refine aw_reg ?_
        refine rs_mv rfl rfl ?_
        refine rs_nil fun _ => ?_
        refine th_n ?_
        refine aw_ret ?_
        refine in_r ?_
        refine th_r ?_
        refine th_r ?_
        refine in_r ?_
        refine th_r ?_
        exact ret_pure rfl (congrArg AV.bool ((within_f hx (by omega)).symm)) rfl (.inr rfl)
      · skip
        refine rs_pick rfl rfl rfl ?_
        refine rs_nil fun _ => ?_
        refine th_n ?_
        refine aw_cond rfl (fun h => by cases h) (fun _ => ?_)
        refine aw_skip ?_
        refine in_n ?_
        refine th_n ?_
        refine aw_reg ?_
        refine rs_mv rfl rfl ?_
        refine rs_add rfl rfl rfl (by omega) ?_
        refine rs_mv rfl rfl ?_
        refine rs_nil fun _ => ?_
        refine th_n ?_
        exact ⟨k + 1, ⟨by omega, fun j n hj hjn => by
          by_cases e : j = k
          · subst e; rw [hx] at hjn; injection hjn with hjn; subst hjn; omega
          · exact hall j n (by omega) hjn⟩, by omega, weak_to (.cons rfl (rc_same rfl (.inl rfl)) (.cons rfl (rc_same rfl (.inl rfl)) (.nil))) (.keep (rfl) rfl (.nil)) (fun i h => by cases h)⟩
  · replace h8 := of_decide_eq_false h8
    refine aw_exit ?_
    refine th_e ?_
    refine th_e ?_
    refine in_hit ?_
    refine th_n ?_
    refine aw_seq ?_
    refine aw_reg ?_
    refine rs_mv rfl rfl ?_
    refine rs_nil fun _ => ?_
    refine th_n ?_
    refine aw_ret ?_
    exact ret_pure rfl (congrArg AV.bool ((within_t fun j n hj => hall j n (by have := lt_of_at hj; simp at this; omega) hj).symm)) rfl (.inr rfl)

def mc51 : MC := (.seq (.reg [⟨(some 1), (.box 80 3 (.t 0)), none, []⟩, ⟨(some 2), (.mv (.c (.int .i64 0))), none, []⟩] false) (.seq (.reg [⟨(some 6), (.fa 0 (.t 1)), none, []⟩, ⟨(some 7), (.ld false 1 (.t 6)), none, [0]⟩, ⟨(some 8), (.fa 0 (.t 1)), none, []⟩, ⟨(some 9), (.ld false 1 (.t 8)), none, [2]⟩, ⟨(some 10), (.un .neg (.t 9)), none, [3]⟩, ⟨(some 11), (.mx (.t 7) (.t 10)), none, [1, 4]⟩, ⟨(some 12), (.fa 1 (.t 1)), none, []⟩, ⟨(some 13), (.ld false 1 (.t 12)), none, [6]⟩, ⟨(some 14), (.fa 1 (.t 1)), none, []⟩, ⟨(some 15), (.ld false 1 (.t 14)), none, [8]⟩, ⟨(some 16), (.un .neg (.t 15)), none, [9]⟩, ⟨(some 17), (.mx (.t 13) (.t 16)), none, [7, 10]⟩, ⟨(some 18), (.fa 2 (.t 1)), none, []⟩, ⟨(some 19), (.ld false 1 (.t 18)), none, [12]⟩, ⟨(some 20), (.fa 2 (.t 1)), none, []⟩, ⟨(some 21), (.ld false 1 (.t 20)), none, [14]⟩, ⟨(some 22), (.un .neg (.t 21)), none, [15]⟩, ⟨(some 23), (.mx (.t 19) (.t 22)), none, [13, 16]⟩, ⟨(some 3), (.mv (.t 11)), none, [5, 0, 1, 2, 3, 4, 5]⟩, ⟨(some 4), (.mv (.t 17)), none, [11, 18, 0, 1, 2, 3, 4, 5, 6, 7, 8, 9, 10, 11, 18]⟩, ⟨(some 5), (.mv (.t 23)), none, [17, 19, 0, 1, 2, 3, 4, 5, 6, 7, 8, 9, 10, 11, 12, 13, 14, 15, 16, 17, 18, 19]⟩] true) (.seq (.seq (.reg [⟨(some 24), (.mv (.t 3)), none, []⟩, ⟨(some 25), (.mv (.t 4)), none, []⟩, ⟨(some 26), (.bin .add (.t 24) (.t 25)), none, [0, 1]⟩, ⟨(some 27), (.mv (.t 5)), none, []⟩, ⟨(some 28), (.bin .add (.t 26) (.t 27)), none, [2, 3]⟩, ⟨(some 29), (.mv (.t 3)), none, []⟩, ⟨(some 30), (.mv (.t 4)), none, []⟩, ⟨(some 31), (.mv (.t 5)), none, []⟩, ⟨(some 32), (.mx (.t 30) (.t 31)), none, [6, 7]⟩, ⟨(some 33), (.mx (.t 29) (.t 32)), none, [5, 8]⟩, ⟨(some 34), (.bin .neq (.t 28) (.t 33)), none, [4, 9]⟩] false) (.cond (.t 34) (.seq (.reg [⟨(some 2), (.mv (.c (.int .i64 0))), none, []⟩] false) .ret) .skip)) (.seq (.reg [⟨(some 35), (.mv (.t 3)), none, []⟩, ⟨(some 36), (.mv (.t 4)), none, []⟩, ⟨(some 37), (.bin .add (.t 35) (.t 36)), none, [0, 1]⟩, ⟨(some 38), (.mv (.t 5)), none, []⟩, ⟨(some 39), (.bin .add (.t 37) (.t 38)), none, [2, 3]⟩, ⟨(some 2), (.mv (.t 39)), none, [4, 0, 1, 2, 3, 4]⟩] false) .ret))))
theorem mcOk51 : (match Try.f75.body with | some c => compC Try.prog 40 c | none => none) = some mc51 := by kernel_rfl

theorem fc51 (v : V3) (hb : Bd 1000000 v) : FC Try.prog 75 [aV v] [] (iv (lenS v)) [] false := by
  have := hb.x; have := hb.y; have := hb.z
  refine fc_run (nt := 40) Try.func75 rfl rfl mcOk51 (Nat.le_of_ble_eq_true rfl) ?_
  delta mc51
  refine aw_seq ?_
  refine aw_reg ?_
  refine rs_box rfl rfl rfl rfl rfl rfl ?_
  refine rs_mv rfl rfl ?_
  refine rs_nil fun _ => ?_
  refine th_n ?_
  refine aw_seq ?_
  refine aw_draw hmix ?_
  refine rs_fa_p rfl rfl ?_
  refine rs_ld_p rfl rfl rfl rfl rfl ?_
  refine rs_fa_p rfl rfl ?_
  refine rs_ld_p rfl rfl rfl rfl rfl ?_
  refine rs_neg rfl rfl (by omega) ?_
  refine rs_mx rfl rfl rfl rfl ?_
  refine rs_fa_p rfl rfl ?_
  refine rs_ld_p rfl rfl rfl rfl rfl ?_
  refine rs_fa_p rfl rfl ?_
  refine rs_ld_p rfl rfl rfl rfl rfl ?_
  refine rs_neg rfl rfl (by omega) ?_
  refine rs_mx rfl rfl rfl rfl ?_
  refine rs_fa_p rfl rfl ?_
  refine rs_ld_p rfl rfl rfl rfl rfl ?_
  refine rs_fa_p rfl rfl ?_
  refine rs_ld_p rfl rfl rfl rfl rfl ?_
  refine rs_neg rfl rfl (by omega) ?_
  refine rs_mx rfl rfl rfl rfl ?_
  refine rs_mv rfl rfl ?_
  refine rs_mv rfl rfl ?_
  refine rs_mv rfl rfl ?_
  refine rs_nil ⟨by kernel_rfl, fun _ => ?_⟩
  refine th_n ?_
  refine aw_seq ?_
  refine aw_seq ?_
  refine aw_reg ?_
  refine rs_mv rfl rfl ?_
  refine rs_mv rfl rfl ?_
  refine rs_add rfl rfl rfl (by omega) ?_
  refine rs_mv rfl rfl ?_
  refine rs_add rfl rfl rfl (by omega) ?_
  refine rs_mv rfl rfl ?_
  refine rs_mv rfl rfl ?_
  refine rs_mv rfl rfl ?_
  refine rs_mx rfl rfl rfl rfl ?_
  refine rs_mx rfl rfl rfl rfl ?_
  refine rs_neq rfl rfl rfl ?_
  refine rs_nil fun _ => ?_
  refine th_n ?_
  refine aw_cond rfl (fun h34 => ?_) (fun h34 => ?_)
  · replace h34 := of_decide_eq_true h34
    refine aw_seq ?_
    refine aw_reg ?_
    refine rs_mv rfl rfl ?_
    refine rs_nil fun _ => ?_
    refine th_n ?_
    refine aw_ret ?_
    refine th_r ?_
    exact ret_pure rfl (congrArg iv (by unfold lenS; first | exact if_neg h34 | exact if_pos (by omega) | (rw [if_neg (by omega)]) | (rw [if_pos (by omega)]))) rfl (.inr rfl)
  · replace h34 := of_decide_eq_false h34
    refine aw_skip ?_
    refine th_n ?_
    refine aw_seq ?_
    refine aw_reg ?_
    refine rs_mv rfl rfl ?_
    refine rs_mv rfl rfl ?_
    refine rs_add rfl rfl rfl (by omega) ?_
    refine rs_mv rfl rfl ?_
    refine rs_add rfl rfl rfl (by omega) ?_
    refine rs_mv rfl rfl ?_
    refine rs_nil fun _ => ?_
    refine th_n ?_
    refine aw_ret ?_
    exact ret_pure rfl (congrArg iv (by unfold lenS; first | exact if_neg h34 | exact if_pos (by omega) | (rw [if_neg (by omega)]) | (rw [if_pos (by omega)]))) rfl (.inr rfl)

def mc54 : MC := (.seq (.reg [⟨(some 1), (.box 82 11 (.t 0)), none, []⟩, ⟨(some 2), (.alloc 80 3 [(.int .i64 0), (.int .i64 0), (.int .i64 0)]), none, []⟩] false) (.seq (.reg [⟨(some 3), (.fa 1 (.t 1)), none, []⟩, ⟨(some 4), (.ld true 3 (.t 3)), none, [0]⟩, ⟨(some 5), (.fa 4 (.t 1)), none, []⟩, ⟨(some 6), (.ld true 3 (.t 5)), none, [2]⟩, ⟨(some 7), (.call 62 [(.t 4), (.t 6)]), none, [1, 3]⟩, ⟨(some 8), (.fa 7 (.t 1)), none, []⟩, ⟨(some 9), (.ld true 3 (.t 8)), none, [5]⟩, ⟨(some 10), (.call 61 [(.t 7), (.t 9)]), none, [4, 6, 4]⟩, ⟨none, (.st 3 (.t 2) (.t 10)), none, [7, 7, 0, 1, 2, 3, 4, 5, 6, 7]⟩] true) .ret))
theorem mcOk54 : (match Try.f78.body with | some c => compC Try.prog 11 c | none => none) = some mc54 := by kernel_rfl

theorem fc54 (m : Mv) : FC Try.prog 78 [aM m] [] (aV (subW (addW m.fr m.to) m.co)) [] false := by
  refine fc_run (nt := 11) Try.func78 rfl rfl mcOk54 (Nat.le_of_ble_eq_true rfl) ?_
  delta mc54
  refine aw_seq ?_
  refine aw_reg ?_
  refine rs_box rfl rfl rfl rfl rfl rfl ?_
  refine rs_alloc rfl rfl rfl ?_
  refine rs_nil fun _ => ?_
  refine th_n ?_
  refine aw_seq ?_
  refine aw_draw hmix ?_
  refine rs_fa_p rfl rfl ?_
  refine rs_ld_pa rfl rfl rfl rfl (Nat.le_of_ble_eq_true rfl) rfl ?_
  refine rs_fa_p rfl rfl ?_
  refine rs_ld_pa rfl rfl rfl rfl (Nat.le_of_ble_eq_true rfl) rfl ?_
  refine rs_calln [] rfl rfl (fc57 m.fr m.to) (.cons (hv_same rfl) (.cons (hv_same rfl) (.nil))) rfl ?_
  refine rs_fa_p rfl rfl ?_
  refine rs_ld_pa rfl rfl rfl rfl (Nat.le_of_ble_eq_true rfl) rfl ?_
  refine rs_calln [] rfl rfl (fc50 (addW m.fr m.to) m.co) (.cons (hv_same rfl) (.cons (hv_same rfl) (.nil))) rfl ?_
  refine rs_st rfl rfl rfl rfl rfl rfl rfl (Nat.le_of_ble_eq_true rfl) rfl rfl ?_
  refine rs_nil ⟨by kernel_rfl, fun _ => ?_⟩
  refine th_n ?_
  refine aw_ret ?_
  exact ret_pure rfl rfl rfl (.inr rfl)

def mc84 : MC := (.seq (.reg [⟨(some 1), (.box 80 3 (.t 0)), none, []⟩, ⟨(some 2), (.mv (.c (.bool false))), none, []⟩] false) (.seq (.reg [⟨(some 3), (.ld true 3 (.t 1)), none, []⟩, ⟨(some 4), (.ld true 3 (.t 1)), none, []⟩, ⟨(some 5), (.call 113 [(.t 3), (.t 4)]), none, [0, 1]⟩, ⟨(some 6), (.bin .eql (.t 5) (.c (.int .i64 1))), none, [2]⟩, ⟨(some 2), (.mv (.t 6)), none, [3, 2, 0, 1, 2, 3]⟩] false) .ret))
theorem mcOk84 : (match Try.f112.body with | some c => compC Try.prog 7 c | none => none) = some mc84 := by kernel_rfl

theorem fc84 (v : V3) : FC Try.prog 112 [aV v] [] (.bool (decide (dotW v v = 1))) [] false := by
  refine fc_run (nt := 7) Try.func112 rfl rfl mcOk84 (Nat.le_of_ble_eq_true rfl) ?_
  delta mc84
  refine aw_seq ?_
  refine aw_reg ?_
  refine rs_box rfl rfl rfl rfl rfl rfl ?_
  refine rs_mv rfl rfl ?_
  refine rs_nil fun _ => ?_
  refine th_n ?_
  refine aw_seq ?_
  refine aw_reg ?_
  refine rs_ld_pa rfl rfl rfl rfl (Nat.le_of_ble_eq_true rfl) rfl ?_
  refine rs_ld_pa rfl rfl rfl rfl (Nat.le_of_ble_eq_true rfl) rfl ?_
  refine rs_calln [] rfl rfl (fc30 v v) (.cons (hv_same rfl) (.cons (hv_same rfl) (.nil))) rfl ?_
  refine rs_eql rfl rfl rfl ?_
  refine rs_mv rfl rfl ?_
  refine rs_nil fun _ => ?_
  refine th_n ?_
  refine aw_ret ?_
  exact ret_pure rfl rfl rfl (.inr rfl)

end Go.Proofs.Ytigfcmcdjfmieaa

/-! Walks: M1. -/
namespace Go.Proofs.Ytigfcmcdjfmieaa
open Go.RowKit
set_option maxRecDepth 100000

section
variable {a b : V3}
theorem fc27s (ha : Bd 1000000 a) (hb : Bd 1000000 b) : FC Try.prog 101 [aV a, aV b] [] (aV (sub a b)) [] false := by rw [← subW_eq ha hb]; exact fc27 a b
theorem fc50s (ha : Bd 1000000 a) (hb : Bd 1000000 b) : FC Try.prog 61 [aV a, aV b] [] (aV (sub a b)) [] false := by rw [← subW_eq ha hb]; exact fc50 a b
theorem fc28s (ha : Bd 1000000 a) (hb : Bd 1000000 b) : FC Try.prog 105 [aV a, aV b] [] (aV (add a b)) [] false := by rw [← addW_eq ha hb]; exact fc28 a b
theorem fc57s (ha : Bd 1000000 a) (hb : Bd 1000000 b) : FC Try.prog 62 [aV a, aV b] [] (aV (add a b)) [] false := by rw [← addW_eq ha hb]; exact fc57 a b
theorem fc30s (ha : Bd 1000000 a) (hb : Bd 1000000 b) : FC Try.prog 113 [aV a, aV b] [] (iv (dot a b)) [] false := by rw [← dotW_eq ha hb]; exact fc30 a b
theorem fc52s (ha : Bd 1000000 a) (hb : Bd 1000000 b) : FC Try.prog 76 [aV a, aV b] [] (iv (dot a b)) [] false := by rw [← dotW_eq ha hb]; exact fc52 a b
theorem fc37s {n : Int} (ha : Bd 1000000 a) (hb : Bd 1000000 b) (hn : -1000000 ≤ n ∧ n ≤ 1000000) : FC Try.prog 71 [aV a, aV b, iv n] [] (aV (plus a b n)) [] false := by rw [← plusW_eq ha hb hn]; exact fc37 a b n
theorem fc78s {n : Int} (ha : Bd 1000000 a) (hb : Bd 1000000 b) (hn : -1000000 ≤ n ∧ n ≤ 1000000) : FC Try.prog 103 [aV a, aV b, iv n] [] (aV (plus a b n)) [] false := by rw [← plusW_eq ha hb hn]; exact fc78 a b n
theorem fc84s (ha : Bd 1000000 a) : FC Try.prog 112 [aV a] [] (.bool (decide (dot a a = 1))) [] false := by rw [← dotW_eq ha ha]; exact fc84 a
end
structure InM (m : Mv) : Prop where
  fr : Bd 24 m.fr
  to : Bd 24 m.to
  co : Bd 24 m.co
theorem inM_of {m : Mv} (h1 : (!inS m.fr) = false) (h2 : (!inS m.to) = false) (h3 : (!inS m.co) = false) : InM m := ⟨in_bd (by simpa using h1), in_bd (by simpa using h2), in_bd (by simpa using h3)⟩
def sA (m : Mv) : V3 := sub m.co m.to
def sB (m : Mv) : V3 := sub m.co m.fr
theorem InM.a {m : Mv} (h : InM m) : Bd 1000 (sA m) := (h.co.sub h.to).mono (by omega)
theorem InM.b {m : Mv} (h : InM m) : Bd 1000 (sB m) := (h.co.sub h.fr).mono (by omega)
theorem prim_bd {n : Int} {v : V3} (h : Bd n v) : Bd n (primV v) := by
  have := h.x; have := h.y; have := h.z
  have h1 := tdiv_le v.x (gS v); have h2 := tdiv_le v.y (gS v); have h3 := tdiv_le v.z (gS v)
  unfold primV
  split
  · exact ⟨by dsimp only; omega, by dsimp only; omega, by dsimp only; omega⟩
  · exact ⟨by dsimp only; omega, by dsimp only; omega, by dsimp only; omega⟩
theorem Bd.big {n : Int} {v : V3} (h : Bd n v) (hn : n ≤ 1000000 := by decide) : Bd 1000000 v := h.mono hn
def fitsA (m : Mv) : Bool := decide (dot (primV (sA m)) (primV (sA m)) = 1) && (decide (dot (primV (sB m)) (primV (sB m)) = 1) && (decide ((gS (sA m) : Int) = gS (sB m)) && decide (dot (primV (sA m)) (primV (sB m)) = 0)))
def fitsL (m : Mv) : Bool := (true != decide (m.fr = m.to)) && (false != decide (m.co = ⟨0, 0, 0⟩))
def rangeB (lo hi : Int) (m : Mv) : Bool := !inS m.fr || (!inS m.to || (!inS m.co || (decide (m.feed < lo) || decide (hi < m.feed))))
def checkS (m : Mv) : Int := if m.kind = 1 then (if rangeB 0 0 m = true then 3 else if fitsL m = true then 0 else 16) else if m.kind = 2 then (if rangeB 1 100 m = true then 3 else if fitsL m = true then 0 else 16)
  else if m.kind = 3 then (if rangeB 1 100 m = true then 3 else if fitsA m = true then 0 else 16) else 16
def quarterS (m : Mv) : Bool := decide (lenS (sub m.fr m.co) ≥ 1) && (decide (lenS (sub m.fr m.co) = lenS (sub m.to m.co)) && decide (dot (sub m.fr m.co) (sub m.to m.co) = 0))
def feedR (m : Mv) : Bool := (decide (m.kind = 1) && decide (m.feed ≠ 0)) || (decide (m.kind ≠ 1) && (decide (m.feed < 1) || decide (100 < m.feed)))
def lastR (m : Mv) : Bool := (false != decide (m.fr = m.to)) || ((decide (m.kind ≠ 3) && (true != decide (m.co = ⟨0, 0, 0⟩))) || (decide (m.kind = 3) && !quarterS m))
def checkR (m : Mv) : Int := if m.kind < 1 ∨ 3 < m.kind then 16 else if (!inS m.fr || (!inS m.to || !inS m.co)) = true then 3 else if feedR m = true then 3 else if lastR m = true then 16 else 0

def mc83 : MC := (.seq (.reg [⟨(some 1), (.box 110 11 (.t 0)), none, []⟩, ⟨(some 2), (.alloc 80 3 [(.int .i64 0), (.int .i64 0), (.int .i64 0)]), none, []⟩, ⟨(some 3), (.alloc 80 3 [(.int .i64 0), (.int .i64 0), (.int .i64 0)]), none, []⟩, ⟨(some 4), (.mv (.c (.int .i64 0))), none, []⟩, ⟨(some 5), (.mv (.c (.int .i64 0))), none, [3]⟩] false) (.seq (.reg [⟨(some 7), (.fa 0 (.t 1)), none, []⟩, ⟨(some 8), (.fa 7 (.t 7)), none, [0]⟩, ⟨(some 9), (.ld true 3 (.t 8)), none, [1]⟩, ⟨(some 10), (.fa 0 (.t 1)), none, []⟩, ⟨(some 11), (.fa 4 (.t 10)), none, [3]⟩, ⟨(some 12), (.ld true 3 (.t 11)), none, [4]⟩, ⟨(some 13), (.call 101 [(.t 9), (.t 12)]), none, [2, 5]⟩, ⟨(some 14), (.call 100 [(.t 13)]), none, [6, 6]⟩, ⟨(some 6), (.mv (.t 14)), none, [7]⟩, ⟨(some 15), (.ext (.t 6) 0), none, [8]⟩, ⟨(some 16), (.ext (.t 6) 1), none, [8]⟩, ⟨none, (.st 3 (.t 2) (.t 15)), none, [9, 7, 0, 1, 2, 3, 4, 5, 6, 7, 8, 9]⟩, ⟨(some 4), (.mv (.t 16)), none, [10, 11, 0, 1, 2, 3, 4, 5, 6, 7, 8, 9, 10, 11]⟩] false) (.seq (.reg [⟨(some 18), (.fa 0 (.t 1)), none, []⟩, ⟨(some 19), (.fa 7 (.t 18)), none, [0]⟩, ⟨(some 20), (.ld true 3 (.t 19)), none, [1]⟩, ⟨(some 21), (.fa 0 (.t 1)), none, []⟩, ⟨(some 22), (.fa 1 (.t 21)), none, [3]⟩, ⟨(some 23), (.ld true 3 (.t 22)), none, [4]⟩, ⟨(some 24), (.call 101 [(.t 20), (.t 23)]), none, [2, 5]⟩, ⟨(some 25), (.call 100 [(.t 24)]), none, [6, 6]⟩, ⟨(some 17), (.mv (.t 25)), none, [7]⟩, ⟨(some 26), (.ext (.t 17) 0), none, [8]⟩, ⟨(some 27), (.ext (.t 17) 1), none, [8]⟩, ⟨none, (.st 3 (.t 3) (.t 26)), none, [9, 7, 0, 1, 2, 3, 4, 5, 6, 7, 8, 9]⟩, ⟨(some 5), (.mv (.t 27)), none, [10, 11, 0, 1, 2, 3, 4, 5, 6, 7, 8, 9, 10, 11]⟩] false) (.seq (.reg [⟨(some 28), (.ld true 3 (.t 2)), none, []⟩, ⟨(some 29), (.ld true 3 (.t 3)), none, []⟩, ⟨(some 30), (.mv (.t 4)), none, []⟩, ⟨(some 31), (.mv (.t 5)), none, []⟩, ⟨none, (.st 3 (.t 2) (.t 28)), none, [0, 0]⟩, ⟨none, (.st 3 (.t 3) (.t 29)), none, [1, 4, 0, 1, 4]⟩, ⟨(some 4), (.mv (.t 30)), none, [2, 5, 0, 1, 2, 4, 5]⟩, ⟨(some 5), (.mv (.t 31)), none, [3, 6, 0, 1, 2, 3, 4, 5, 6]⟩] true) .ret))))
theorem mcOk83 : (match Try.f111.body with | some c => compC Try.prog 32 c | none => none) = some mc83 := by kernel_rfl

theorem fc83 (m : Mv) (h : InM m) : FC Try.prog 111 [aM m] [] (.tup [aV (primV (sA m)), aV (primV (sB m)), iv (gS (sA m) : Int), iv (gS (sB m) : Int)]) [] false := by
  refine fc_run (nt := 32) Try.func111 rfl rfl mcOk83 (Nat.le_of_ble_eq_true rfl) ?_
  delta mc83
  refine aw_seq ?_
  refine aw_reg ?_
  refine rs_box rfl rfl rfl rfl rfl rfl ?_
  refine rs_alloc rfl rfl rfl ?_
  refine rs_alloc rfl rfl rfl ?_
  refine rs_mv rfl rfl ?_
  refine rs_mv rfl rfl ?_
  refine rs_nil fun _ => ?_
  refine th_n ?_
  refine aw_seq ?_
  refine aw_reg ?_
  refine rs_fa_p rfl rfl ?_
  refine rs_fa_p rfl rfl ?_
  refine rs_ld_pa rfl rfl rfl rfl (Nat.le_of_ble_eq_true rfl) rfl ?_
  refine rs_fa_p rfl rfl ?_
  refine rs_fa_p rfl rfl ?_
  refine rs_ld_pa rfl rfl rfl rfl (Nat.le_of_ble_eq_true rfl) rfl ?_
  refine rs_calln [] rfl rfl (fc27s h.co.big h.to.big) (.cons (hv_same rfl) (.cons (hv_same rfl) (.nil))) rfl ?_
  refine rs_calln [] rfl rfl (fc29 (sA m) h.a.big) (.cons (hv_same rfl) (.nil)) rfl ?_
  refine rs_mv rfl rfl ?_
  refine rs_ext rfl rfl rfl ?_
  refine rs_ext rfl rfl rfl ?_
  refine rs_st rfl rfl rfl rfl rfl rfl rfl (Nat.le_of_ble_eq_true rfl) rfl rfl ?_
  refine rs_mv rfl rfl ?_
  refine rs_nil fun _ => ?_
  refine th_n ?_
  refine aw_seq ?_
  refine aw_reg ?_
  refine rs_fa_p rfl rfl ?_
  refine rs_fa_p rfl rfl ?_
  refine rs_ld_pa rfl rfl rfl rfl (Nat.le_of_ble_eq_true rfl) rfl ?_
  refine rs_fa_p rfl rfl ?_
  refine rs_fa_p rfl rfl ?_
  refine rs_ld_pa rfl rfl rfl rfl (Nat.le_of_ble_eq_true rfl) rfl ?_
  refine rs_calln [] rfl rfl (fc27s h.co.big h.fr.big) (.cons (hv_same rfl) (.cons (hv_same rfl) (.nil))) rfl ?_
  refine rs_calln [] rfl rfl (fc29 (sB m) h.b.big) (.cons (hv_same rfl) (.nil)) rfl ?_
  refine rs_mv rfl rfl ?_
  refine rs_ext rfl rfl rfl ?_
  refine rs_ext rfl rfl rfl ?_
  refine rs_st rfl rfl rfl rfl rfl rfl rfl (Nat.le_of_ble_eq_true rfl) rfl rfl ?_
  refine rs_mv rfl rfl ?_
  refine rs_nil fun _ => ?_
  refine th_n ?_
  refine aw_seq ?_
  refine aw_draw hmix ?_
  refine rs_ld_pa rfl rfl rfl rfl (Nat.le_of_ble_eq_true rfl) rfl ?_
  refine rs_ld_pa rfl rfl rfl rfl (Nat.le_of_ble_eq_true rfl) rfl ?_
  refine rs_mv rfl rfl ?_
  refine rs_mv rfl rfl ?_
  refine rs_st rfl rfl rfl rfl rfl rfl rfl (Nat.le_of_ble_eq_true rfl) rfl rfl ?_
  refine rs_st rfl rfl rfl rfl rfl rfl rfl (Nat.le_of_ble_eq_true rfl) rfl rfl ?_
  refine rs_mv rfl rfl ?_
  refine rs_mv rfl rfl ?_
  refine rs_nil ⟨by kernel_rfl, fun _ => ?_⟩
  refine th_n ?_
  refine aw_ret ?_
  exact ret_pure rfl rfl rfl (.inr rfl)

def mc79 : MC := (.seq (.reg [⟨(some 1), (.box 110 11 (.t 0)), none, []⟩, ⟨(some 2), (.mv (.c (.bool false))), none, []⟩] false) (.seq (.reg [⟨(some 8), (.ld true 11 (.t 1)), none, []⟩, ⟨(some 9), (.call 111 [(.t 8)]), none, [0]⟩, ⟨(some 7), (.mv (.t 9)), none, [1]⟩, ⟨(some 10), (.ext (.t 7) 0), none, [2]⟩, ⟨(some 11), (.ext (.t 7) 1), none, [2]⟩, ⟨(some 12), (.ext (.t 7) 2), none, [2]⟩, ⟨(some 13), (.ext (.t 7) 3), none, [2]⟩, ⟨(some 3), (.alloc 80 3 [(.int .i64 0), (.int .i64 0), (.int .i64 0)]), none, []⟩, ⟨(some 4), (.alloc 80 3 [(.int .i64 0), (.int .i64 0), (.int .i64 0)]), none, []⟩, ⟨none, (.st 3 (.t 3) (.t 10)), none, [7, 3, 1, 0, 1, 2, 3, 7, 8]⟩, ⟨none, (.st 3 (.t 4) (.t 11)), none, [8, 4, 9, 0, 1, 2, 3, 4, 7, 8, 9]⟩, ⟨(some 5), (.mv (.t 12)), none, [5, 10, 0, 1, 2, 3, 4, 5, 7, 8, 9, 10]⟩, ⟨(some 6), (.mv (.t 13)), none, [6, 11, 0, 1, 2, 3, 4, 5, 6, 7, 8, 9, 10, 11]⟩] false) (.seq (.reg [⟨(some 14), (.ld true 3 (.t 3)), none, []⟩, ⟨(some 15), (.call 112 [(.t 14)]), none, [0]⟩, ⟨(some 16), (.mv (.t 15)), none, [1, 1]⟩, ⟨(some 17), (.ld true 3 (.t 4)), (some (16, true)), [2]⟩, ⟨(some 18), (.call 112 [(.t 17)]), (some (16, true)), [3, 2, 2]⟩, ⟨(some 19), (.pick (.t 16) (.t 18) (.c (.bool false))), none, [2, 4]⟩, ⟨(some 20), (.mv (.t 19)), none, [5, 4]⟩, ⟨(some 21), (.mv (.t 5)), (some (20, true)), [6]⟩, ⟨(some 22), (.mv (.t 6)), (some (20, true)), [6]⟩, ⟨(some 23), (.bin .eql (.t 21) (.t 22)), (some (20, true)), [7, 8, 6]⟩, ⟨(some 24), (.pick (.t 20) (.t 23) (.c (.bool false))), none, [6, 9]⟩, ⟨(some 25), (.mv (.t 24)), none, [10, 6]⟩, ⟨(some 26), (.ld true 3 (.t 3)), (some (25, true)), [11]⟩, ⟨(some 27), (.ld true 3 (.t 4)), (some (25, true)), [11]⟩, ⟨(some 28), (.call 113 [(.t 26), (.t 27)]), (some (25, true)), [12, 13, 11, 11]⟩, ⟨(some 29), (.bin .eql (.t 28) (.c (.int .i64 0))), (some (25, true)), [14, 11]⟩, ⟨(some 30), (.pick (.t 25) (.t 29) (.c (.bool false))), none, [11, 15]⟩, ⟨(some 2), (.mv (.t 30)), none, [16, 14, 0, 1, 2, 3, 4, 5, 6, 7, 8, 9, 10, 11, 12, 13, 14, 15, 16]⟩] false) .ret)))
theorem mcOk79 : (match Try.f107.body with | some c => compC Try.prog 31 c | none => none) = some mc79 := by kernel_rfl

theorem fc79 (m : Mv) (h : InM m) : FC Try.prog 107 [aM m] [] (.bool (fitsA m)) [] false := by
  refine fc_run (nt := 31) Try.func107 rfl rfl mcOk79 (Nat.le_of_ble_eq_true rfl) ?_
  delta mc79
  refine aw_seq ?_
  refine aw_reg ?_
  refine rs_box rfl rfl rfl rfl rfl rfl ?_
  refine rs_mv rfl rfl ?_
  refine rs_nil fun _ => ?_
  refine th_n ?_
  refine aw_seq ?_
  refine aw_reg ?_
  refine rs_ld_pa rfl rfl rfl rfl (Nat.le_of_ble_eq_true rfl) rfl ?_
  refine rs_calln [] rfl rfl (fc83 m h) (.cons (hv_same rfl) (.nil)) rfl ?_
  refine rs_mv rfl rfl ?_
  refine rs_ext rfl rfl rfl ?_
  refine rs_ext rfl rfl rfl ?_
  refine rs_ext rfl rfl rfl ?_
  refine rs_ext rfl rfl rfl ?_
  refine rs_alloc rfl rfl rfl ?_
  refine rs_alloc rfl rfl rfl ?_
  refine rs_st rfl rfl rfl rfl rfl rfl rfl (Nat.le_of_ble_eq_true rfl) rfl rfl ?_
  refine rs_st rfl rfl rfl rfl rfl rfl rfl (Nat.le_of_ble_eq_true rfl) rfl rfl ?_
  refine rs_mv rfl rfl ?_
  refine rs_mv rfl rfl ?_
  refine rs_nil fun _ => ?_
  refine th_n ?_
  refine aw_seq ?_
  refine aw_reg ?_
  refine rs_ld_pa rfl rfl rfl rfl (Nat.le_of_ble_eq_true rfl) rfl ?_
  refine rs_calln [] rfl rfl (fc84s (prim_bd h.a).big) (.cons (hv_same rfl) (.nil)) rfl ?_
  refine rs_mv rfl rfl ?_
  cases h16 : decide (dot (primV (sA m)) (primV (sA m)) = 1)
  · skip
    refine rs_skip rfl ?_
    refine rs_skip rfl ?_
    refine rs_pick rfl rfl rfl ?_
    refine rs_mv rfl rfl ?_
    refine rs_skip rfl ?_
    refine rs_skip rfl ?_
    refine rs_skip rfl ?_
    refine rs_pick rfl rfl rfl ?_
    refine rs_mv rfl rfl ?_
    refine rs_skip rfl ?_
    refine rs_skip rfl ?_
    refine rs_skip rfl ?_
    refine rs_skip rfl ?_
    refine rs_pick rfl rfl rfl ?_
    refine rs_mv rfl rfl ?_
    refine rs_nil fun _ => ?_
    refine th_n ?_
    refine aw_ret ?_
    exact ret_pure rfl (congrArg AV.bool (by simp_all [fitsA])) rfl (.inr rfl)
  · skip
    refine rs_ld_pa rfl rfl rfl rfl (Nat.le_of_ble_eq_true rfl) rfl ?_
    refine rs_calln [] rfl rfl (fc84s (prim_bd h.b).big) (.cons (hv_same rfl) (.nil)) rfl ?_
    cases h18 : decide (dot (primV (sB m)) (primV (sB m)) = 1)
    · skip
      refine rs_pick rfl rfl rfl ?_
      refine rs_mv rfl rfl ?_
      refine rs_skip rfl ?_
      refine rs_skip rfl ?_
      refine rs_skip rfl ?_
      refine rs_pick rfl rfl rfl ?_
      refine rs_mv rfl rfl ?_
      refine rs_skip rfl ?_
      refine rs_skip rfl ?_
      refine rs_skip rfl ?_
      refine rs_skip rfl ?_
      refine rs_pick rfl rfl rfl ?_
      refine rs_mv rfl rfl ?_
      refine rs_nil fun _ => ?_
      refine th_n ?_
      refine aw_ret ?_
      exact ret_pure rfl (congrArg AV.bool (by simp_all [fitsA])) rfl (.inr rfl)
    · skip
      refine rs_pick rfl rfl rfl ?_
      refine rs_mv rfl rfl ?_
      refine rs_mv rfl rfl ?_
      refine rs_mv rfl rfl ?_
      refine rs_cmp rfl rfl rfl rfl (fun h23 => ?_) (fun h23 => ?_)
      · skip
        refine rs_pick rfl rfl rfl ?_
        refine rs_mv rfl rfl ?_
        refine rs_ld_pa rfl rfl rfl rfl (Nat.le_of_ble_eq_true rfl) rfl ?_
        refine rs_ld_pa rfl rfl rfl rfl (Nat.le_of_ble_eq_true rfl) rfl ?_
        refine rs_calln [] rfl rfl (fc30s (prim_bd h.a).big (prim_bd h.b).big) (.cons (hv_same rfl) (.cons (hv_same rfl) (.nil))) rfl ?_
        refine rs_cmp rfl rfl rfl rfl (fun h29 => ?_) (fun h29 => ?_)
        · skip
          refine rs_pick rfl rfl rfl ?_
          refine rs_mv rfl rfl ?_
          refine rs_nil fun _ => ?_
          refine th_n ?_
          refine aw_ret ?_
          exact ret_pure rfl (congrArg AV.bool (by simp_all [fitsA])) rfl (.inr rfl)
        · skip
          refine rs_pick rfl rfl rfl ?_
          refine rs_mv rfl rfl ?_
          refine rs_nil fun _ => ?_
          refine th_n ?_
          refine aw_ret ?_
          exact ret_pure rfl (congrArg AV.bool (by simp_all [fitsA])) rfl (.inr rfl)
      · skip
        refine rs_pick rfl rfl rfl ?_
        refine rs_mv rfl rfl ?_
        refine rs_skip rfl ?_
        refine rs_skip rfl ?_
        refine rs_skip rfl ?_
        refine rs_skip rfl ?_
        refine rs_pick rfl rfl rfl ?_
        refine rs_mv rfl rfl ?_
        refine rs_nil fun _ => ?_
        refine th_n ?_
        refine aw_ret ?_
        exact ret_pure rfl (congrArg AV.bool (by simp_all [fitsA])) rfl (.inr rfl)

def mc73 : MC := (.seq (.reg [⟨(some 1), (.box 109 11 (.t 0)), none, []⟩, ⟨(some 2), (.mv (.c (.bool false))), none, []⟩] false) (.seq (.reg [⟨(some 3), (.fa 0 (.t 1)), none, []⟩, ⟨(some 4), (.fa 1 (.t 3)), none, [0]⟩, ⟨(some 5), (.ld true 3 (.t 4)), none, [1]⟩, ⟨(some 6), (.fa 0 (.t 1)), none, []⟩, ⟨(some 7), (.fa 4 (.t 6)), none, [3]⟩, ⟨(some 8), (.ld true 3 (.t 7)), none, [4]⟩, ⟨(some 9), (.aeq true 3 (.t 5) (.t 8)), none, [2, 5]⟩, ⟨(some 10), (.mv (.t 9)), none, [6]⟩, ⟨(some 11), (.fa 0 (.t 1)), (some (10, true)), [7]⟩, ⟨(some 12), (.fa 7 (.t 11)), (some (10, true)), [8, 7]⟩, ⟨(some 13), (.ld true 3 (.t 12)), (some (10, true)), [9, 7]⟩, ⟨(some 14), (.build [(.int .i64 0), (.int .i64 0), (.int .i64 0)] []), (some (10, true)), [7]⟩, ⟨(some 15), (.aeq false 3 (.t 13) (.t 14)), (some (10, true)), [10, 11, 7]⟩, ⟨(some 16), (.pick (.t 10) (.t 15) (.c (.bool false))), none, [7, 12]⟩, ⟨(some 2), (.mv (.t 16)), none, [13, 7, 0, 1, 2, 3, 4, 5, 6, 7, 8, 9, 10, 11, 12, 13]⟩] false) .ret))
theorem mcOk73 : (match Try.f96.body with | some c => compC Try.prog 17 c | none => none) = some mc73 := by kernel_rfl

theorem fc73 (m : Mv) : FC Try.prog 96 [aM m] [] (.bool (fitsL m)) [] false := by
  refine fc_run (nt := 17) Try.func96 rfl rfl mcOk73 (Nat.le_of_ble_eq_true rfl) ?_
  delta mc73
  refine aw_seq ?_
  refine aw_reg ?_
  refine rs_box rfl rfl rfl rfl rfl rfl ?_
  refine rs_mv rfl rfl ?_
  refine rs_nil fun _ => ?_
  refine th_n ?_
  refine aw_seq ?_
  refine aw_reg ?_
  refine rs_fa_p rfl rfl ?_
  refine rs_fa_p rfl rfl ?_
  refine rs_ld_pa rfl rfl rfl rfl (Nat.le_of_ble_eq_true rfl) rfl ?_
  refine rs_fa_p rfl rfl ?_
  refine rs_fa_p rfl rfl ?_
  refine rs_ld_pa rfl rfl rfl rfl (Nat.le_of_ble_eq_true rfl) rfl ?_
  refine rs_aeqv rfl rfl rfl ?_
  cases h9 : (true != decide (m.fr = m.to))
  · skip
    refine rs_mv rfl rfl ?_
    refine rs_skip rfl ?_
    refine rs_skip rfl ?_
    refine rs_skip rfl ?_
    refine rs_skip rfl ?_
    refine rs_skip rfl ?_
    refine rs_pick rfl rfl rfl ?_
    refine rs_mv rfl rfl ?_
    refine rs_nil fun _ => ?_
    refine th_n ?_
    refine aw_ret ?_
    exact ret_pure rfl (congrArg AV.bool (by simp_all [fitsL])) rfl (.inr rfl)
  · skip
    refine rs_mv rfl rfl ?_
    refine rs_fa_p rfl rfl ?_
    refine rs_fa_p rfl rfl ?_
    refine rs_ld_pa rfl rfl rfl rfl (Nat.le_of_ble_eq_true rfl) rfl ?_
    refine rs_build rfl rfl ?_
    refine rs_aeqv (v := ⟨0, 0, 0⟩) rfl rfl rfl ?_
    refine rs_pick rfl rfl rfl ?_
    refine rs_mv rfl rfl ?_
    refine rs_nil fun _ => ?_
    refine th_n ?_
    refine aw_ret ?_
    exact ret_pure rfl (congrArg AV.bool (by simp_all [fitsL])) rfl (.inr rfl)

def mc39 : MC := (.seq (.reg [⟨(some 1), (.box 82 11 (.t 0)), none, []⟩, ⟨(some 2), (.mv (.c .nili)), none, []⟩] false) (.seq (.seq (.reg [⟨(some 3), (.fa 0 (.t 1)), none, []⟩, ⟨(some 4), (.ld false 1 (.t 3)), none, [0]⟩] false) (.block 0 (.seq (.seq (.reg [⟨(some 6), (.bin .eql (.t 4) (.c (.int .i64 1))), none, []⟩, ⟨(some 5), (.mv (.t 6)), none, [0]⟩] false) (.cond (.t 5) .skip (.reg [⟨(some 7), (.bin .eql (.t 4) (.c (.int .i64 2))), none, []⟩, ⟨(some 5), (.mv (.t 7)), none, [0]⟩] false))) (.cond (.t 5) (.seq (.reg [⟨(some 8), (.ld true 11 (.t 1)), none, []⟩, ⟨(some 9), (.build [(.int .i64 0), (.int .i64 0), (.int .i64 0), (.int .i64 0), (.int .i64 0), (.int .i64 0), (.int .i64 0), (.int .i64 0), (.int .i64 0), (.int .i64 0), (.int .i64 0)] [(0, (11, (.t 8)))]), none, [0]⟩, ⟨(some 10), (.mkif 109 (.t 9)), none, [1]⟩, ⟨(some 2), (.mv (.t 10)), none, [2, 0, 1, 2]⟩] false) .ret) (.seq (.reg [⟨(some 12), (.bin .eql (.t 4) (.c (.int .i64 3))), none, []⟩, ⟨(some 11), (.mv (.t 12)), none, [0]⟩] false) (.cond (.t 11) (.seq (.reg [⟨(some 13), (.ld true 11 (.t 1)), none, []⟩, ⟨(some 14), (.build [(.int .i64 0), (.int .i64 0), (.int .i64 0), (.int .i64 0), (.int .i64 0), (.int .i64 0), (.int .i64 0), (.int .i64 0), (.int .i64 0), (.int .i64 0), (.int .i64 0)] [(0, (11, (.t 13)))]), none, [0]⟩, ⟨(some 15), (.mkif 110 (.t 14)), none, [1]⟩, ⟨(some 2), (.mv (.t 15)), none, [2, 0, 1, 2]⟩] false) .ret) .skip)))))) (.seq (.reg [⟨(some 2), (.mv (.c .nili)), none, []⟩] false) .ret)))
theorem mcOk39 : (match Try.f63.body with | some c => compC Try.prog 16 c | none => none) = some mc39 := by kernel_rfl

theorem fc39_l (m : Mv) (hk : m.kind = 1 ∨ m.kind = 2) : FC Try.prog 63 [aM m] [] (.ifc 109 (aM m)) [] false := by
  refine fc_run (nt := 16) Try.func63 rfl rfl mcOk39 (Nat.le_of_ble_eq_true rfl) ?_
  delta mc39
  refine aw_seq ?_
  refine aw_reg ?_
  refine rs_box rfl rfl rfl rfl rfl rfl ?_
  refine rs_mv rfl rfl ?_
  refine rs_nil fun _ => ?_
  refine th_n ?_
  refine aw_seq ?_
  refine aw_seq ?_
  refine aw_reg ?_
  refine rs_fa_p rfl rfl ?_
  refine rs_ld_p rfl rfl rfl rfl rfl ?_
  refine rs_nil fun _ => ?_
  refine th_n ?_
  refine aw_block ?_
  refine aw_seq ?_
  refine aw_seq ?_
  refine aw_reg ?_
  refine rs_eql rfl rfl rfl ?_
  refine rs_mv rfl rfl ?_
  refine rs_nil fun _ => ?_
  refine th_n ?_
  refine aw_cond rfl (fun h5 => ?_) (fun h5 => ?_)
  · replace h5 := of_decide_eq_true h5
    refine aw_skip ?_
    refine th_n ?_
    refine aw_cond rfl (fun h5 => ?_) (fun h5 => ?_)
    · replace h5 := of_decide_eq_true h5
      refine aw_seq ?_
      refine aw_reg ?_
      refine rs_ld_pa rfl rfl rfl rfl (Nat.le_of_ble_eq_true rfl) rfl ?_
      refine rs_build rfl rfl ?_
      refine rs_mkif rfl rfl rfl ?_
      refine rs_mv rfl rfl ?_
      refine rs_nil fun _ => ?_
      refine th_n ?_
      refine aw_ret ?_
      refine in_r ?_
      refine th_r ?_
      exact ret_pure rfl rfl rfl (.inr rfl)
    · replace h5 := of_decide_eq_false h5
      refine aw_seq ?_
      refine aw_reg ?_
      refine rs_eql rfl rfl rfl ?_
      refine rs_mv rfl rfl ?_
      refine rs_nil fun _ => ?_
      refine th_n ?_
      refine aw_cond rfl (fun h11 => ?_) (fun h11 => ?_)
      · replace h11 := of_decide_eq_true h11
        refine aw_seq ?_
        refine aw_reg ?_
        refine rs_ld_pa rfl rfl rfl rfl (Nat.le_of_ble_eq_true rfl) rfl ?_
        refine rs_build rfl rfl ?_
        refine rs_mkif rfl rfl rfl ?_
        refine rs_mv rfl rfl ?_
        refine rs_nil fun _ => ?_
        refine th_n ?_
        refine aw_ret ?_
        refine in_r ?_
        refine th_r ?_
        (exfalso; omega)
      · replace h11 := of_decide_eq_false h11
        refine aw_skip ?_
        refine in_n ?_
        refine th_n ?_
        refine aw_seq ?_
        refine aw_reg ?_
        refine rs_mv rfl rfl ?_
        refine rs_nil fun _ => ?_
        refine th_n ?_
        refine aw_ret ?_
        (exfalso; omega)
  · replace h5 := of_decide_eq_false h5
    refine aw_reg ?_
    refine rs_eql rfl rfl rfl ?_
    refine rs_mv rfl rfl ?_
    refine rs_nil fun _ => ?_
    refine th_n ?_
    refine aw_cond rfl (fun h5 => ?_) (fun h5 => ?_)
    · replace h5 := of_decide_eq_true h5
      refine aw_seq ?_
      refine aw_reg ?_
      refine rs_ld_pa rfl rfl rfl rfl (Nat.le_of_ble_eq_true rfl) rfl ?_
      refine rs_build rfl rfl ?_
      refine rs_mkif rfl rfl rfl ?_
      refine rs_mv rfl rfl ?_
      refine rs_nil fun _ => ?_
      refine th_n ?_
      refine aw_ret ?_
      refine in_r ?_
      refine th_r ?_
      exact ret_pure rfl rfl rfl (.inr rfl)
    · replace h5 := of_decide_eq_false h5
      refine aw_seq ?_
      refine aw_reg ?_
      refine rs_eql rfl rfl rfl ?_
      refine rs_mv rfl rfl ?_
      refine rs_nil fun _ => ?_
      refine th_n ?_
      refine aw_cond rfl (fun h11 => ?_) (fun h11 => ?_)
      · replace h11 := of_decide_eq_true h11
        refine aw_seq ?_
        refine aw_reg ?_
        refine rs_ld_pa rfl rfl rfl rfl (Nat.le_of_ble_eq_true rfl) rfl ?_
        refine rs_build rfl rfl ?_
        refine rs_mkif rfl rfl rfl ?_
        refine rs_mv rfl rfl ?_
        refine rs_nil fun _ => ?_
        refine th_n ?_
        refine aw_ret ?_
        refine in_r ?_
        refine th_r ?_
        (exfalso; omega)
      · replace h11 := of_decide_eq_false h11
        refine aw_skip ?_
        refine in_n ?_
        refine th_n ?_
        refine aw_seq ?_
        refine aw_reg ?_
        refine rs_mv rfl rfl ?_
        refine rs_nil fun _ => ?_
        refine th_n ?_
        refine aw_ret ?_
        (exfalso; omega)

theorem fc39_a (m : Mv) (hk : m.kind = 3) : FC Try.prog 63 [aM m] [] (.ifc 110 (aM m)) [] false := by
  refine fc_run (nt := 16) Try.func63 rfl rfl mcOk39 (Nat.le_of_ble_eq_true rfl) ?_
  delta mc39
  refine aw_seq ?_
  refine aw_reg ?_
  refine rs_box rfl rfl rfl rfl rfl rfl ?_
  refine rs_mv rfl rfl ?_
  refine rs_nil fun _ => ?_
  refine th_n ?_
  refine aw_seq ?_
  refine aw_seq ?_
  refine aw_reg ?_
  refine rs_fa_p rfl rfl ?_
  refine rs_ld_p rfl rfl rfl rfl rfl ?_
  refine rs_nil fun _ => ?_
  refine th_n ?_
  refine aw_block ?_
  refine aw_seq ?_
  refine aw_seq ?_
  refine aw_reg ?_
  refine rs_eql rfl rfl rfl ?_
  refine rs_mv rfl rfl ?_
  refine rs_nil fun _ => ?_
  refine th_n ?_
  refine aw_cond rfl (fun h5 => ?_) (fun h5 => ?_)
  · replace h5 := of_decide_eq_true h5
    refine aw_skip ?_
    refine th_n ?_
    refine aw_cond rfl (fun h5 => ?_) (fun h5 => ?_)
    · replace h5 := of_decide_eq_true h5
      refine aw_seq ?_
      refine aw_reg ?_
      refine rs_ld_pa rfl rfl rfl rfl (Nat.le_of_ble_eq_true rfl) rfl ?_
      refine rs_build rfl rfl ?_
      refine rs_mkif rfl rfl rfl ?_
      refine rs_mv rfl rfl ?_
      refine rs_nil fun _ => ?_
      refine th_n ?_
      refine aw_ret ?_
      refine in_r ?_
      refine th_r ?_
      (exfalso; omega)
    · replace h5 := of_decide_eq_false h5
      refine aw_seq ?_
      refine aw_reg ?_
      refine rs_eql rfl rfl rfl ?_
      refine rs_mv rfl rfl ?_
      refine rs_nil fun _ => ?_
      refine th_n ?_
      refine aw_cond rfl (fun h11 => ?_) (fun h11 => ?_)
      · replace h11 := of_decide_eq_true h11
        refine aw_seq ?_
        refine aw_reg ?_
        refine rs_ld_pa rfl rfl rfl rfl (Nat.le_of_ble_eq_true rfl) rfl ?_
        refine rs_build rfl rfl ?_
        refine rs_mkif rfl rfl rfl ?_
        refine rs_mv rfl rfl ?_
        refine rs_nil fun _ => ?_
        refine th_n ?_
        refine aw_ret ?_
        refine in_r ?_
        refine th_r ?_
        exact ret_pure rfl rfl rfl (.inr rfl)
      · replace h11 := of_decide_eq_false h11
        refine aw_skip ?_
        refine in_n ?_
        refine th_n ?_
        refine aw_seq ?_
        refine aw_reg ?_
        refine rs_mv rfl rfl ?_
        refine rs_nil fun _ => ?_
        refine th_n ?_
        refine aw_ret ?_
        (exfalso; omega)
  · replace h5 := of_decide_eq_false h5
    refine aw_reg ?_
    refine rs_eql rfl rfl rfl ?_
    refine rs_mv rfl rfl ?_
    refine rs_nil fun _ => ?_
    refine th_n ?_
    refine aw_cond rfl (fun h5 => ?_) (fun h5 => ?_)
    · replace h5 := of_decide_eq_true h5
      refine aw_seq ?_
      refine aw_reg ?_
      refine rs_ld_pa rfl rfl rfl rfl (Nat.le_of_ble_eq_true rfl) rfl ?_
      refine rs_build rfl rfl ?_
      refine rs_mkif rfl rfl rfl ?_
      refine rs_mv rfl rfl ?_
      refine rs_nil fun _ => ?_
      refine th_n ?_
      refine aw_ret ?_
      refine in_r ?_
      refine th_r ?_
      (exfalso; omega)
    · replace h5 := of_decide_eq_false h5
      refine aw_seq ?_
      refine aw_reg ?_
      refine rs_eql rfl rfl rfl ?_
      refine rs_mv rfl rfl ?_
      refine rs_nil fun _ => ?_
      refine th_n ?_
      refine aw_cond rfl (fun h11 => ?_) (fun h11 => ?_)
      · replace h11 := of_decide_eq_true h11
        refine aw_seq ?_
        refine aw_reg ?_
        refine rs_ld_pa rfl rfl rfl rfl (Nat.le_of_ble_eq_true rfl) rfl ?_
        refine rs_build rfl rfl ?_
        refine rs_mkif rfl rfl rfl ?_
        refine rs_mv rfl rfl ?_
        refine rs_nil fun _ => ?_
        refine th_n ?_
        refine aw_ret ?_
        refine in_r ?_
        refine th_r ?_
        exact ret_pure rfl rfl rfl (.inr rfl)
      · replace h11 := of_decide_eq_false h11
        refine aw_skip ?_
        refine in_n ?_
        refine th_n ?_
        refine aw_seq ?_
        refine aw_reg ?_
        refine rs_mv rfl rfl ?_
        refine rs_nil fun _ => ?_
        refine th_n ?_
        refine aw_ret ?_
        (exfalso; omega)

theorem fc39_n (m : Mv) (hk : ¬ m.kind = 1 ∧ ¬ m.kind = 2 ∧ ¬ m.kind = 3) : FC Try.prog 63 [aM m] [] (.nili) [] false := by
  refine fc_run (nt := 16) Try.func63 rfl rfl mcOk39 (Nat.le_of_ble_eq_true rfl) ?_
  delta mc39
  refine aw_seq ?_
  refine aw_reg ?_
  refine rs_box rfl rfl rfl rfl rfl rfl ?_
  refine rs_mv rfl rfl ?_
  refine rs_nil fun _ => ?_
  refine th_n ?_
  refine aw_seq ?_
  refine aw_seq ?_
  refine aw_reg ?_
  refine rs_fa_p rfl rfl ?_
  refine rs_ld_p rfl rfl rfl rfl rfl ?_
  refine rs_nil fun _ => ?_
  refine th_n ?_
  refine aw_block ?_
  refine aw_seq ?_
  refine aw_seq ?_
  refine aw_reg ?_
  refine rs_eql rfl rfl rfl ?_
  refine rs_mv rfl rfl ?_
  refine rs_nil fun _ => ?_
  refine th_n ?_
  refine aw_cond rfl (fun h5 => ?_) (fun h5 => ?_)
  · replace h5 := of_decide_eq_true h5
    refine aw_skip ?_
    refine th_n ?_
    refine aw_cond rfl (fun h5 => ?_) (fun h5 => ?_)
    · replace h5 := of_decide_eq_true h5
      refine aw_seq ?_
      refine aw_reg ?_
      refine rs_ld_pa rfl rfl rfl rfl (Nat.le_of_ble_eq_true rfl) rfl ?_
      refine rs_build rfl rfl ?_
      refine rs_mkif rfl rfl rfl ?_
      refine rs_mv rfl rfl ?_
      refine rs_nil fun _ => ?_
      refine th_n ?_
      refine aw_ret ?_
      refine in_r ?_
      refine th_r ?_
      (exfalso; omega)
    · replace h5 := of_decide_eq_false h5
      refine aw_seq ?_
      refine aw_reg ?_
      refine rs_eql rfl rfl rfl ?_
      refine rs_mv rfl rfl ?_
      refine rs_nil fun _ => ?_
      refine th_n ?_
      refine aw_cond rfl (fun h11 => ?_) (fun h11 => ?_)
      · replace h11 := of_decide_eq_true h11
        refine aw_seq ?_
        refine aw_reg ?_
        refine rs_ld_pa rfl rfl rfl rfl (Nat.le_of_ble_eq_true rfl) rfl ?_
        refine rs_build rfl rfl ?_
        refine rs_mkif rfl rfl rfl ?_
        refine rs_mv rfl rfl ?_
        refine rs_nil fun _ => ?_
        refine th_n ?_
        refine aw_ret ?_
        refine in_r ?_
        refine th_r ?_
        (exfalso; omega)
      · replace h11 := of_decide_eq_false h11
        refine aw_skip ?_
        refine in_n ?_
        refine th_n ?_
        refine aw_seq ?_
        refine aw_reg ?_
        refine rs_mv rfl rfl ?_
        refine rs_nil fun _ => ?_
        refine th_n ?_
        refine aw_ret ?_
        exact ret_pure rfl rfl rfl (.inr rfl)
  · replace h5 := of_decide_eq_false h5
    refine aw_reg ?_
    refine rs_eql rfl rfl rfl ?_
    refine rs_mv rfl rfl ?_
    refine rs_nil fun _ => ?_
    refine th_n ?_
    refine aw_cond rfl (fun h5 => ?_) (fun h5 => ?_)
    · replace h5 := of_decide_eq_true h5
      refine aw_seq ?_
      refine aw_reg ?_
      refine rs_ld_pa rfl rfl rfl rfl (Nat.le_of_ble_eq_true rfl) rfl ?_
      refine rs_build rfl rfl ?_
      refine rs_mkif rfl rfl rfl ?_
      refine rs_mv rfl rfl ?_
      refine rs_nil fun _ => ?_
      refine th_n ?_
      refine aw_ret ?_
      refine in_r ?_
      refine th_r ?_
      (exfalso; omega)
    · replace h5 := of_decide_eq_false h5
      refine aw_seq ?_
      refine aw_reg ?_
      refine rs_eql rfl rfl rfl ?_
      refine rs_mv rfl rfl ?_
      refine rs_nil fun _ => ?_
      refine th_n ?_
      refine aw_cond rfl (fun h11 => ?_) (fun h11 => ?_)
      · replace h11 := of_decide_eq_true h11
        refine aw_seq ?_
        refine aw_reg ?_
        refine rs_ld_pa rfl rfl rfl rfl (Nat.le_of_ble_eq_true rfl) rfl ?_
        refine rs_build rfl rfl ?_
        refine rs_mkif rfl rfl rfl ?_
        refine rs_mv rfl rfl ?_
        refine rs_nil fun _ => ?_
        refine th_n ?_
        refine aw_ret ?_
        refine in_r ?_
        refine th_r ?_
        (exfalso; omega)
      · replace h11 := of_decide_eq_false h11
        refine aw_skip ?_
        refine in_n ?_
        refine th_n ?_
        refine aw_seq ?_
        refine aw_reg ?_
        refine rs_mv rfl rfl ?_
        refine rs_nil fun _ => ?_
        refine th_n ?_
        refine aw_ret ?_
        exact ret_pure rfl rfl rfl (.inr rfl)

def mc12 : MC := (.seq (.reg [⟨(some 1), (.box 82 11 (.t 0)), none, []⟩, ⟨(some 2), (.mv (.c (.int .i64 0))), none, []⟩] false) (.seq (.reg [⟨(some 6), (.ld true 11 (.t 1)), none, []⟩, ⟨(some 7), (.call 63 [(.t 6)]), none, [0]⟩, ⟨(some 3), (.mv (.t 7)), none, [1, 1, 0, 1]⟩] false) (.seq (.reg [⟨(some 4), (.mv (.c (.int .i64 1))), none, []⟩, ⟨(some 5), (.mv (.c (.int .i64 100))), none, [0, 0]⟩] false) (.seq (.seq (.reg [⟨(some 8), (.fa 0 (.t 1)), none, []⟩, ⟨(some 9), (.ld false 1 (.t 8)), none, [0]⟩, ⟨(some 10), (.bin .eql (.t 9) (.c (.int .i64 1))), none, [1]⟩] false) (.cond (.t 10) (.reg [⟨(some 4), (.mv (.c (.int .i64 0))), none, []⟩, ⟨(some 5), (.mv (.c (.int .i64 0))), none, [0, 0]⟩] false) .skip)) (.seq (.block 0 (.seq (.reg [⟨(some 12), (.mv (.t 3)), none, []⟩, ⟨(some 13), (.ifnil false (.t 12)), none, [0]⟩, ⟨(some 11), (.mv (.t 13)), none, [1]⟩] false) (.cond (.t 11) (.seq (.reg [⟨(some 2), (.mv (.c (.int .i64 16))), none, []⟩] false) .ret) (.seq (.reg [⟨(some 15), (.fa 1 (.t 1)), none, []⟩, ⟨(some 16), (.ld true 3 (.t 15)), none, [0]⟩, ⟨(some 17), (.call 64 [(.t 16)]), none, [1]⟩, ⟨(some 18), (.un .not (.t 17)), none, [2]⟩, ⟨(some 19), (.mv (.t 18)), none, [3, 2]⟩, ⟨(some 20), (.fa 4 (.t 1)), (some (19, false)), [4]⟩, ⟨(some 21), (.ld true 3 (.t 20)), (some (19, false)), [5, 4]⟩, ⟨(some 22), (.call 64 [(.t 21)]), (some (19, false)), [6, 4, 4]⟩, ⟨(some 23), (.un .not (.t 22)), (some (19, false)), [7, 4]⟩, ⟨(some 24), (.pick (.t 19) (.c (.bool true)) (.t 23)), none, [4, 8]⟩, ⟨(some 25), (.mv (.t 24)), none, [9, 7]⟩, ⟨(some 26), (.fa 7 (.t 1)), (some (25, false)), [10]⟩, ⟨(some 27), (.ld true 3 (.t 26)), (some (25, false)), [11, 10]⟩, ⟨(some 28), (.call 64 [(.t 27)]), (some (25, false)), [12, 10, 10]⟩, ⟨(some 29), (.un .not (.t 28)), (some (25, false)), [13, 10]⟩, ⟨(some 30), (.pick (.t 25) (.c (.bool true)) (.t 29)), none, [10, 14]⟩, ⟨(some 31), (.mv (.t 30)), none, [15, 13]⟩, ⟨(some 32), (.fa 10 (.t 1)), (some (31, false)), [16]⟩, ⟨(some 33), (.ld false 1 (.t 32)), (some (31, false)), [17, 16]⟩, ⟨(some 34), (.mv (.t 4)), (some (31, false)), [16]⟩, ⟨(some 35), (.bin .lss (.t 33) (.t 34)), (some (31, false)), [18, 19, 16]⟩, ⟨(some 36), (.pick (.t 31) (.c (.bool true)) (.t 35)), none, [16, 20]⟩, ⟨(some 37), (.mv (.t 36)), none, [21, 16]⟩, ⟨(some 38), (.fa 10 (.t 1)), (some (37, false)), [22]⟩, ⟨(some 39), (.ld false 1 (.t 38)), (some (37, false)), [23, 22]⟩, ⟨(some 40), (.mv (.t 5)), (some (37, false)), [22]⟩, ⟨(some 41), (.bin .gtr (.t 39) (.t 40)), (some (37, false)), [24, 25, 22]⟩, ⟨(some 42), (.pick (.t 37) (.c (.bool true)) (.t 41)), none, [22, 26]⟩, ⟨(some 14), (.mv (.t 42)), none, [27, 22]⟩] false) (.cond (.t 14) (.seq (.reg [⟨(some 2), (.mv (.c (.int .i64 3))), none, []⟩] false) .ret) (.seq (.reg [⟨(some 44), (.mv (.t 3)), none, []⟩, ⟨(some 45), (.inv "collet/move.fits" (.t 44) []), none, [0]⟩, ⟨(some 46), (.un .not (.t 45)), none, [1]⟩, ⟨(some 43), (.mv (.t 46)), none, [2, 1]⟩] false) (.cond (.t 43) (.seq (.reg [⟨(some 2), (.mv (.c (.int .i64 16))), none, []⟩] false) .ret) .skip))))))) (.seq (.reg [⟨(some 2), (.mv (.c (.int .i64 0))), none, []⟩] false) .ret))))))
theorem mcOk12 : (match Try.f54.body with | some c => compC Try.prog 47 c | none => none) = some mc12 := by kernel_rfl

theorem fc12_l (m : Mv) (hk : m.kind = 1 ∨ m.kind = 2) : FC Try.prog 54 [aM m] [] (iv (checkS m)) [] false := by
  refine fc_run (nt := 47) Try.func54 rfl rfl mcOk12 (Nat.le_of_ble_eq_true rfl) ?_
  delta mc12
  refine aw_seq ?_
  refine aw_reg ?_
  refine rs_box rfl rfl rfl rfl rfl rfl ?_
  refine rs_mv rfl rfl ?_
  refine rs_nil fun _ => ?_
  refine th_n ?_
  refine aw_seq ?_
  refine aw_reg ?_
  refine rs_ld_pa rfl rfl rfl rfl (Nat.le_of_ble_eq_true rfl) rfl ?_
  refine rs_calln [] rfl rfl (fc39_l m hk) (.cons (hv_same rfl) (.nil)) rfl ?_
  refine rs_mv rfl rfl ?_
  refine rs_nil fun _ => ?_
  refine th_n ?_
  refine aw_seq ?_
  refine aw_reg ?_
  refine rs_mv rfl rfl ?_
  refine rs_mv rfl rfl ?_
  refine rs_nil fun _ => ?_
  refine th_n ?_
  refine aw_seq ?_
  refine aw_seq ?_
  refine aw_reg ?_
  refine rs_fa_p rfl rfl ?_
  refine rs_ld_p rfl rfl rfl rfl rfl ?_
  refine rs_eql rfl rfl rfl ?_
  refine rs_nil fun _ => ?_
  refine th_n ?_
  refine aw_cond rfl (fun h10 => ?_) (fun h10 => ?_)
  · replace h10 := of_decide_eq_true h10
    refine aw_reg ?_
    refine rs_mv rfl rfl ?_
    refine rs_mv rfl rfl ?_
    refine rs_nil fun _ => ?_
    refine th_n ?_
    refine aw_seq ?_
    refine aw_block ?_
    refine aw_seq ?_
    refine aw_reg ?_
    refine rs_mv rfl rfl ?_
    refine rs_ifnil_i rfl rfl ?_
    refine rs_mv rfl rfl ?_
    refine rs_nil fun _ => ?_
    refine th_n ?_
    refine aw_cond rfl (fun h => by cases h) (fun _ => ?_)
    refine aw_seq ?_
    refine aw_reg ?_
    refine rs_fa_p rfl rfl ?_
    refine rs_ld_pa rfl rfl rfl rfl (Nat.le_of_ble_eq_true rfl) rfl ?_
    refine rs_calln [] rfl rfl (fc40 m.fr) (.cons (hv_same rfl) (.nil)) rfl ?_
    refine rs_not rfl rfl ?_
    refine rs_mv rfl rfl ?_
    cases h19 : !inS m.fr
    · skip
      refine rs_fa_p rfl rfl ?_
      refine rs_ld_pa rfl rfl rfl rfl (Nat.le_of_ble_eq_true rfl) rfl ?_
      refine rs_calln [] rfl rfl (fc40 m.to) (.cons (hv_same rfl) (.nil)) rfl ?_
      refine rs_not rfl rfl ?_
      cases h23 : !inS m.to
      · skip
        refine rs_pick rfl rfl rfl ?_
        refine rs_mv rfl rfl ?_
        refine rs_fa_p rfl rfl ?_
        refine rs_ld_pa rfl rfl rfl rfl (Nat.le_of_ble_eq_true rfl) rfl ?_
        refine rs_calln [] rfl rfl (fc40 m.co) (.cons (hv_same rfl) (.nil)) rfl ?_
        refine rs_not rfl rfl ?_
        cases h29 : !inS m.co
        · skip
          refine rs_pick rfl rfl rfl ?_
          refine rs_mv rfl rfl ?_
          refine rs_fa_p rfl rfl ?_
          refine rs_ld_p rfl rfl rfl rfl rfl ?_
          refine rs_mv rfl rfl ?_
          refine rs_cmp rfl rfl rfl rfl (fun h35 => ?_) (fun h35 => ?_)
          · skip
            refine rs_pick rfl rfl rfl ?_
            refine rs_mv rfl rfl ?_
            refine rs_skip rfl ?_
            refine rs_skip rfl ?_
            refine rs_skip rfl ?_
            refine rs_skip rfl ?_
            refine rs_pick rfl rfl rfl ?_
            refine rs_mv rfl rfl ?_
            refine rs_nil fun _ => ?_
            refine th_n ?_
            refine aw_cond rfl (fun _ => ?_) (fun h => by cases h)
            refine aw_seq ?_
            refine aw_reg ?_
            refine rs_mv rfl rfl ?_
            refine rs_nil fun _ => ?_
            refine th_n ?_
            refine aw_ret ?_
            refine in_r ?_
            refine th_r ?_
            exact ret_pure rfl (congrArg iv (by unfold checkS; simp_all [rangeB]; done)) rfl (.inr rfl)
          · skip
            refine rs_pick rfl rfl rfl ?_
            refine rs_mv rfl rfl ?_
            refine rs_fa_p rfl rfl ?_
            refine rs_ld_p rfl rfl rfl rfl rfl ?_
            refine rs_mv rfl rfl ?_
            refine rs_cmp rfl rfl rfl rfl (fun h41 => ?_) (fun h41 => ?_)
            · skip
              refine rs_pick rfl rfl rfl ?_
              refine rs_mv rfl rfl ?_
              refine rs_nil fun _ => ?_
              refine th_n ?_
              refine aw_cond rfl (fun _ => ?_) (fun h => by cases h)
              refine aw_seq ?_
              refine aw_reg ?_
              refine rs_mv rfl rfl ?_
              refine rs_nil fun _ => ?_
              refine th_n ?_
              refine aw_ret ?_
              refine in_r ?_
              refine th_r ?_
              exact ret_pure rfl (congrArg iv (by unfold checkS; simp_all [rangeB]; done)) rfl (.inr rfl)
            · skip
              refine rs_pick rfl rfl rfl ?_
              refine rs_mv rfl rfl ?_
              refine rs_nil fun _ => ?_
              refine th_n ?_
              refine aw_cond rfl (fun h => by cases h) (fun _ => ?_)
              refine aw_seq ?_
              refine aw_reg ?_
              refine rs_mv rfl rfl ?_
              refine rs_invn [] rfl rfl (by kernel_rfl) (by kernel_rfl) rfl (fc73 m) (.cons (hv_same rfl) (.nil)) rfl ?_
              refine rs_not rfl rfl ?_
              cases h46 : !fitsL m
              · skip
                refine rs_mv rfl rfl ?_
                refine rs_nil fun _ => ?_
                refine th_n ?_
                refine aw_cond rfl (fun h => by cases h) (fun _ => ?_)
                refine aw_skip ?_
                refine in_n ?_
                refine th_n ?_
                refine aw_seq ?_
                refine aw_reg ?_
                refine rs_mv rfl rfl ?_
                refine rs_nil fun _ => ?_
                refine th_n ?_
                refine aw_ret ?_
                exact ret_pure rfl (congrArg iv (by unfold checkS; simp_all [rangeB]; done)) rfl (.inr rfl)
              · skip
                refine rs_mv rfl rfl ?_
                refine rs_nil fun _ => ?_
                refine th_n ?_
                refine aw_cond rfl (fun _ => ?_) (fun h => by cases h)
                refine aw_seq ?_
                refine aw_reg ?_
                refine rs_mv rfl rfl ?_
                refine rs_nil fun _ => ?_
                refine th_n ?_
                refine aw_ret ?_
                refine in_r ?_
                refine th_r ?_
                exact ret_pure rfl (congrArg iv (by unfold checkS; simp_all [rangeB]; done)) rfl (.inr rfl)
        · skip
          refine rs_pick rfl rfl rfl ?_
          refine rs_mv rfl rfl ?_
          refine rs_skip rfl ?_
          refine rs_skip rfl ?_
          refine rs_skip rfl ?_
          refine rs_skip rfl ?_
          refine rs_pick rfl rfl rfl ?_
          refine rs_mv rfl rfl ?_
          refine rs_skip rfl ?_
          refine rs_skip rfl ?_
          refine rs_skip rfl ?_
          refine rs_skip rfl ?_
          refine rs_pick rfl rfl rfl ?_
          refine rs_mv rfl rfl ?_
          refine rs_nil fun _ => ?_
          refine th_n ?_
          refine aw_cond rfl (fun _ => ?_) (fun h => by cases h)
          refine aw_seq ?_
          refine aw_reg ?_
          refine rs_mv rfl rfl ?_
          refine rs_nil fun _ => ?_
          refine th_n ?_
          refine aw_ret ?_
          refine in_r ?_
          refine th_r ?_
          exact ret_pure rfl (congrArg iv (by unfold checkS; simp_all [rangeB]; done)) rfl (.inr rfl)
      · skip
        refine rs_pick rfl rfl rfl ?_
        refine rs_mv rfl rfl ?_
        refine rs_skip rfl ?_
        refine rs_skip rfl ?_
        refine rs_skip rfl ?_
        refine rs_skip rfl ?_
        refine rs_pick rfl rfl rfl ?_
        refine rs_mv rfl rfl ?_
        refine rs_skip rfl ?_
        refine rs_skip rfl ?_
        refine rs_skip rfl ?_
        refine rs_skip rfl ?_
        refine rs_pick rfl rfl rfl ?_
        refine rs_mv rfl rfl ?_
        refine rs_skip rfl ?_
        refine rs_skip rfl ?_
        refine rs_skip rfl ?_
        refine rs_skip rfl ?_
        refine rs_pick rfl rfl rfl ?_
        refine rs_mv rfl rfl ?_
        refine rs_nil fun _ => ?_
        refine th_n ?_
        refine aw_cond rfl (fun _ => ?_) (fun h => by cases h)
        refine aw_seq ?_
        refine aw_reg ?_
        refine rs_mv rfl rfl ?_
        refine rs_nil fun _ => ?_
        refine th_n ?_
        refine aw_ret ?_
        refine in_r ?_
        refine th_r ?_
        exact ret_pure rfl (congrArg iv (by unfold checkS; simp_all [rangeB]; done)) rfl (.inr rfl)
    · skip
      refine rs_skip rfl ?_
      refine rs_skip rfl ?_
      refine rs_skip rfl ?_
      refine rs_skip rfl ?_
      refine rs_pick rfl rfl rfl ?_
      refine rs_mv rfl rfl ?_
      refine rs_skip rfl ?_
      refine rs_skip rfl ?_
      refine rs_skip rfl ?_
      refine rs_skip rfl ?_
      refine rs_pick rfl rfl rfl ?_
      refine rs_mv rfl rfl ?_
      refine rs_skip rfl ?_
      refine rs_skip rfl ?_
      refine rs_skip rfl ?_
      refine rs_skip rfl ?_
      refine rs_pick rfl rfl rfl ?_
      refine rs_mv rfl rfl ?_
      refine rs_skip rfl ?_
      refine rs_skip rfl ?_
      refine rs_skip rfl ?_
      refine rs_skip rfl ?_
      refine rs_pick rfl rfl rfl ?_
      refine rs_mv rfl rfl ?_
      refine rs_nil fun _ => ?_
      refine th_n ?_
      refine aw_cond rfl (fun _ => ?_) (fun h => by cases h)
      refine aw_seq ?_
      refine aw_reg ?_
      refine rs_mv rfl rfl ?_
      refine rs_nil fun _ => ?_
      refine th_n ?_
      refine aw_ret ?_
      refine in_r ?_
      refine th_r ?_
      exact ret_pure rfl (congrArg iv (by unfold checkS; simp_all [rangeB]; done)) rfl (.inr rfl)
  · replace h10 := of_decide_eq_false h10
    refine aw_skip ?_
    refine th_n ?_
    refine aw_seq ?_
    refine aw_block ?_
    refine aw_seq ?_
    refine aw_reg ?_
    refine rs_mv rfl rfl ?_
    refine rs_ifnil_i rfl rfl ?_
    refine rs_mv rfl rfl ?_
    refine rs_nil fun _ => ?_
    refine th_n ?_
    refine aw_cond rfl (fun h => by cases h) (fun _ => ?_)
    refine aw_seq ?_
    refine aw_reg ?_
    refine rs_fa_p rfl rfl ?_
    refine rs_ld_pa rfl rfl rfl rfl (Nat.le_of_ble_eq_true rfl) rfl ?_
    refine rs_calln [] rfl rfl (fc40 m.fr) (.cons (hv_same rfl) (.nil)) rfl ?_
    refine rs_not rfl rfl ?_
    refine rs_mv rfl rfl ?_
    cases h19 : !inS m.fr
    · skip
      refine rs_fa_p rfl rfl ?_
      refine rs_ld_pa rfl rfl rfl rfl (Nat.le_of_ble_eq_true rfl) rfl ?_
      refine rs_calln [] rfl rfl (fc40 m.to) (.cons (hv_same rfl) (.nil)) rfl ?_
      refine rs_not rfl rfl ?_
      cases h23 : !inS m.to
      · skip
        refine rs_pick rfl rfl rfl ?_
        refine rs_mv rfl rfl ?_
        refine rs_fa_p rfl rfl ?_
        refine rs_ld_pa rfl rfl rfl rfl (Nat.le_of_ble_eq_true rfl) rfl ?_
        refine rs_calln [] rfl rfl (fc40 m.co) (.cons (hv_same rfl) (.nil)) rfl ?_
        refine rs_not rfl rfl ?_
        cases h29 : !inS m.co
        · skip
          refine rs_pick rfl rfl rfl ?_
          refine rs_mv rfl rfl ?_
          refine rs_fa_p rfl rfl ?_
          refine rs_ld_p rfl rfl rfl rfl rfl ?_
          refine rs_mv rfl rfl ?_
          refine rs_cmp rfl rfl rfl rfl (fun h35 => ?_) (fun h35 => ?_)
          · skip
            refine rs_pick rfl rfl rfl ?_
            refine rs_mv rfl rfl ?_
            refine rs_skip rfl ?_
            refine rs_skip rfl ?_
            refine rs_skip rfl ?_
            refine rs_skip rfl ?_
            refine rs_pick rfl rfl rfl ?_
            refine rs_mv rfl rfl ?_
            refine rs_nil fun _ => ?_
            refine th_n ?_
            refine aw_cond rfl (fun _ => ?_) (fun h => by cases h)
            refine aw_seq ?_
            refine aw_reg ?_
            refine rs_mv rfl rfl ?_
            refine rs_nil fun _ => ?_
            refine th_n ?_
            refine aw_ret ?_
            refine in_r ?_
            refine th_r ?_
            exact ret_pure rfl (congrArg iv (by unfold checkS; simp_all [rangeB]; done)) rfl (.inr rfl)
          · skip
            refine rs_pick rfl rfl rfl ?_
            refine rs_mv rfl rfl ?_
            refine rs_fa_p rfl rfl ?_
            refine rs_ld_p rfl rfl rfl rfl rfl ?_
            refine rs_mv rfl rfl ?_
            refine rs_cmp rfl rfl rfl rfl (fun h41 => ?_) (fun h41 => ?_)
            · skip
              refine rs_pick rfl rfl rfl ?_
              refine rs_mv rfl rfl ?_
              refine rs_nil fun _ => ?_
              refine th_n ?_
              refine aw_cond rfl (fun _ => ?_) (fun h => by cases h)
              refine aw_seq ?_
              refine aw_reg ?_
              refine rs_mv rfl rfl ?_
              refine rs_nil fun _ => ?_
              refine th_n ?_
              refine aw_ret ?_
              refine in_r ?_
              refine th_r ?_
              exact ret_pure rfl (congrArg iv (by unfold checkS; simp_all [rangeB]; done)) rfl (.inr rfl)
            · skip
              refine rs_pick rfl rfl rfl ?_
              refine rs_mv rfl rfl ?_
              refine rs_nil fun _ => ?_
              refine th_n ?_
              refine aw_cond rfl (fun h => by cases h) (fun _ => ?_)
              refine aw_seq ?_
              refine aw_reg ?_
              refine rs_mv rfl rfl ?_
              refine rs_invn [] rfl rfl (by kernel_rfl) (by kernel_rfl) rfl (fc73 m) (.cons (hv_same rfl) (.nil)) rfl ?_
              refine rs_not rfl rfl ?_
              cases h46 : !fitsL m
              · skip
                refine rs_mv rfl rfl ?_
                refine rs_nil fun _ => ?_
                refine th_n ?_
                refine aw_cond rfl (fun h => by cases h) (fun _ => ?_)
                refine aw_skip ?_
                refine in_n ?_
                refine th_n ?_
                refine aw_seq ?_
                refine aw_reg ?_
                refine rs_mv rfl rfl ?_
                refine rs_nil fun _ => ?_
                refine th_n ?_
                refine aw_ret ?_
                exact ret_pure rfl (congrArg iv (by unfold checkS; simp_all [rangeB]; done)) rfl (.inr rfl)
              · skip
                refine rs_mv rfl rfl ?_
                refine rs_nil fun _ => ?_
                refine th_n ?_
                refine aw_cond rfl (fun _ => ?_) (fun h => by cases h)
                refine aw_seq ?_
                refine aw_reg ?_
                refine rs_mv rfl rfl ?_
                refine rs_nil fun _ => ?_
                refine th_n ?_
                refine aw_ret ?_
                refine in_r ?_
                refine th_r ?_
                exact ret_pure rfl (congrArg iv (by unfold checkS; simp_all [rangeB]; done)) rfl (.inr rfl)
        · skip
          refine rs_pick rfl rfl rfl ?_
          refine rs_mv rfl rfl ?_
          refine rs_skip rfl ?_
          refine rs_skip rfl ?_
          refine rs_skip rfl ?_
          refine rs_skip rfl ?_
          refine rs_pick rfl rfl rfl ?_
          refine rs_mv rfl rfl ?_
          refine rs_skip rfl ?_
          refine rs_skip rfl ?_
          refine rs_skip rfl ?_
          refine rs_skip rfl ?_
          refine rs_pick rfl rfl rfl ?_
          refine rs_mv rfl rfl ?_
          refine rs_nil fun _ => ?_
          refine th_n ?_
          refine aw_cond rfl (fun _ => ?_) (fun h => by cases h)
          refine aw_seq ?_
          refine aw_reg ?_
          refine rs_mv rfl rfl ?_
          refine rs_nil fun _ => ?_
          refine th_n ?_
          refine aw_ret ?_
          refine in_r ?_
          refine th_r ?_
          exact ret_pure rfl (congrArg iv (by unfold checkS; simp_all [rangeB]; done)) rfl (.inr rfl)
      · skip
        refine rs_pick rfl rfl rfl ?_
        refine rs_mv rfl rfl ?_
        refine rs_skip rfl ?_
        refine rs_skip rfl ?_
        refine rs_skip rfl ?_
        refine rs_skip rfl ?_
        refine rs_pick rfl rfl rfl ?_
        refine rs_mv rfl rfl ?_
        refine rs_skip rfl ?_
        refine rs_skip rfl ?_
        refine rs_skip rfl ?_
        refine rs_skip rfl ?_
        refine rs_pick rfl rfl rfl ?_
        refine rs_mv rfl rfl ?_
        refine rs_skip rfl ?_
        refine rs_skip rfl ?_
        refine rs_skip rfl ?_
        refine rs_skip rfl ?_
        refine rs_pick rfl rfl rfl ?_
        refine rs_mv rfl rfl ?_
        refine rs_nil fun _ => ?_
        refine th_n ?_
        refine aw_cond rfl (fun _ => ?_) (fun h => by cases h)
        refine aw_seq ?_
        refine aw_reg ?_
        refine rs_mv rfl rfl ?_
        refine rs_nil fun _ => ?_
        refine th_n ?_
        refine aw_ret ?_
        refine in_r ?_
        refine th_r ?_
        exact ret_pure rfl (congrArg iv (by unfold checkS; simp_all [rangeB]; done)) rfl (.inr rfl)
    · skip
      refine rs_skip rfl ?_
      refine rs_skip rfl ?_
      refine rs_skip rfl ?_
      refine rs_skip rfl ?_
      refine rs_pick rfl rfl rfl ?_
      refine rs_mv rfl rfl ?_
      refine rs_skip rfl ?_
      refine rs_skip rfl ?_
      refine rs_skip rfl ?_
      refine rs_skip rfl ?_
      refine rs_pick rfl rfl rfl ?_
      refine rs_mv rfl rfl ?_
      refine rs_skip rfl ?_
      refine rs_skip rfl ?_
      refine rs_skip rfl ?_
      refine rs_skip rfl ?_
      refine rs_pick rfl rfl rfl ?_
      refine rs_mv rfl rfl ?_
      refine rs_skip rfl ?_
      refine rs_skip rfl ?_
      refine rs_skip rfl ?_
      refine rs_skip rfl ?_
      refine rs_pick rfl rfl rfl ?_
      refine rs_mv rfl rfl ?_
      refine rs_nil fun _ => ?_
      refine th_n ?_
      refine aw_cond rfl (fun _ => ?_) (fun h => by cases h)
      refine aw_seq ?_
      refine aw_reg ?_
      refine rs_mv rfl rfl ?_
      refine rs_nil fun _ => ?_
      refine th_n ?_
      refine aw_ret ?_
      refine in_r ?_
      refine th_r ?_
      exact ret_pure rfl (congrArg iv (by unfold checkS; simp_all [rangeB]; done)) rfl (.inr rfl)

theorem fc12_a (m : Mv) (hk : m.kind = 3) : FC Try.prog 54 [aM m] [] (iv (checkS m)) [] false := by
  refine fc_run (nt := 47) Try.func54 rfl rfl mcOk12 (Nat.le_of_ble_eq_true rfl) ?_
  delta mc12
  refine aw_seq ?_
  refine aw_reg ?_
  refine rs_box rfl rfl rfl rfl rfl rfl ?_
  refine rs_mv rfl rfl ?_
  refine rs_nil fun _ => ?_
  refine th_n ?_
  refine aw_seq ?_
  refine aw_reg ?_
  refine rs_ld_pa rfl rfl rfl rfl (Nat.le_of_ble_eq_true rfl) rfl ?_
  refine rs_calln [] rfl rfl (fc39_a m hk) (.cons (hv_same rfl) (.nil)) rfl ?_
  refine rs_mv rfl rfl ?_
  refine rs_nil fun _ => ?_
  refine th_n ?_
  refine aw_seq ?_
  refine aw_reg ?_
  refine rs_mv rfl rfl ?_
  refine rs_mv rfl rfl ?_
  refine rs_nil fun _ => ?_
  refine th_n ?_
  refine aw_seq ?_
  refine aw_seq ?_
  refine aw_reg ?_
  refine rs_fa_p rfl rfl ?_
  refine rs_ld_p rfl rfl rfl rfl rfl ?_
  refine rs_eql rfl rfl rfl ?_
  refine rs_nil fun _ => ?_
  refine th_n ?_
  refine aw_cond rfl (fun h10 => ?_) (fun h10 => ?_)
  · replace h10 := of_decide_eq_true h10
    refine aw_reg ?_
    refine rs_mv rfl rfl ?_
    refine rs_mv rfl rfl ?_
    refine rs_nil fun _ => ?_
    refine th_n ?_
    refine aw_seq ?_
    refine aw_block ?_
    refine aw_seq ?_
    refine aw_reg ?_
    refine rs_mv rfl rfl ?_
    refine rs_ifnil_i rfl rfl ?_
    refine rs_mv rfl rfl ?_
    refine rs_nil fun _ => ?_
    refine th_n ?_
    refine aw_cond rfl (fun h => by cases h) (fun _ => ?_)
    refine aw_seq ?_
    refine aw_reg ?_
    refine rs_fa_p rfl rfl ?_
    refine rs_ld_pa rfl rfl rfl rfl (Nat.le_of_ble_eq_true rfl) rfl ?_
    refine rs_calln [] rfl rfl (fc40 m.fr) (.cons (hv_same rfl) (.nil)) rfl ?_
    refine rs_not rfl rfl ?_
    refine rs_mv rfl rfl ?_
    cases h19 : !inS m.fr
    · skip
      refine rs_fa_p rfl rfl ?_
      refine rs_ld_pa rfl rfl rfl rfl (Nat.le_of_ble_eq_true rfl) rfl ?_
      refine rs_calln [] rfl rfl (fc40 m.to) (.cons (hv_same rfl) (.nil)) rfl ?_
      refine rs_not rfl rfl ?_
      cases h23 : !inS m.to
      · skip
        refine rs_pick rfl rfl rfl ?_
        refine rs_mv rfl rfl ?_
        refine rs_fa_p rfl rfl ?_
        refine rs_ld_pa rfl rfl rfl rfl (Nat.le_of_ble_eq_true rfl) rfl ?_
        refine rs_calln [] rfl rfl (fc40 m.co) (.cons (hv_same rfl) (.nil)) rfl ?_
        refine rs_not rfl rfl ?_
        cases h29 : !inS m.co
        · skip
          refine rs_pick rfl rfl rfl ?_
          refine rs_mv rfl rfl ?_
          refine rs_fa_p rfl rfl ?_
          refine rs_ld_p rfl rfl rfl rfl rfl ?_
          refine rs_mv rfl rfl ?_
          refine rs_cmp rfl rfl rfl rfl (fun h35 => ?_) (fun h35 => ?_)
          · skip
            refine rs_pick rfl rfl rfl ?_
            refine rs_mv rfl rfl ?_
            refine rs_skip rfl ?_
            refine rs_skip rfl ?_
            refine rs_skip rfl ?_
            refine rs_skip rfl ?_
            refine rs_pick rfl rfl rfl ?_
            refine rs_mv rfl rfl ?_
            refine rs_nil fun _ => ?_
            refine th_n ?_
            refine aw_cond rfl (fun _ => ?_) (fun h => by cases h)
            refine aw_seq ?_
            refine aw_reg ?_
            refine rs_mv rfl rfl ?_
            refine rs_nil fun _ => ?_
            refine th_n ?_
            refine aw_ret ?_
            refine in_r ?_
            refine th_r ?_
            (exfalso; omega)
          · skip
            refine rs_pick rfl rfl rfl ?_
            refine rs_mv rfl rfl ?_
            refine rs_fa_p rfl rfl ?_
            refine rs_ld_p rfl rfl rfl rfl rfl ?_
            refine rs_mv rfl rfl ?_
            refine rs_cmp rfl rfl rfl rfl (fun h41 => ?_) (fun h41 => ?_)
            · skip
              refine rs_pick rfl rfl rfl ?_
              refine rs_mv rfl rfl ?_
              refine rs_nil fun _ => ?_
              refine th_n ?_
              refine aw_cond rfl (fun _ => ?_) (fun h => by cases h)
              refine aw_seq ?_
              refine aw_reg ?_
              refine rs_mv rfl rfl ?_
              refine rs_nil fun _ => ?_
              refine th_n ?_
              refine aw_ret ?_
              refine in_r ?_
              refine th_r ?_
              (exfalso; omega)
            · skip
              refine rs_pick rfl rfl rfl ?_
              refine rs_mv rfl rfl ?_
              refine rs_nil fun _ => ?_
              refine th_n ?_
              refine aw_cond rfl (fun h => by cases h) (fun _ => ?_)
              refine aw_seq ?_
              refine aw_reg ?_
              refine rs_mv rfl rfl ?_
              refine rs_invn [] rfl rfl (by kernel_rfl) (by kernel_rfl) rfl (fc79 m (inM_of h19 h23 h29)) (.cons (hv_same rfl) (.nil)) rfl ?_
              refine rs_not rfl rfl ?_
              cases h46 : !fitsA m
              · skip
                refine rs_mv rfl rfl ?_
                refine rs_nil fun _ => ?_
                refine th_n ?_
                refine aw_cond rfl (fun h => by cases h) (fun _ => ?_)
                refine aw_skip ?_
                refine in_n ?_
                refine th_n ?_
                refine aw_seq ?_
                refine aw_reg ?_
                refine rs_mv rfl rfl ?_
                refine rs_nil fun _ => ?_
                refine th_n ?_
                refine aw_ret ?_
                (exfalso; omega)
              · skip
                refine rs_mv rfl rfl ?_
                refine rs_nil fun _ => ?_
                refine th_n ?_
                refine aw_cond rfl (fun _ => ?_) (fun h => by cases h)
                refine aw_seq ?_
                refine aw_reg ?_
                refine rs_mv rfl rfl ?_
                refine rs_nil fun _ => ?_
                refine th_n ?_
                refine aw_ret ?_
                refine in_r ?_
                refine th_r ?_
                (exfalso; omega)
        · skip
          refine rs_pick rfl rfl rfl ?_
          refine rs_mv rfl rfl ?_
          refine rs_skip rfl ?_
          refine rs_skip rfl ?_
          refine rs_skip rfl ?_
          refine rs_skip rfl ?_
          refine rs_pick rfl rfl rfl ?_
          refine rs_mv rfl rfl ?_
          refine rs_skip rfl ?_
          refine rs_skip rfl ?_
          refine rs_skip rfl ?_
          refine rs_skip rfl ?_
          refine rs_pick rfl rfl rfl ?_
          refine rs_mv rfl rfl ?_
          refine rs_nil fun _ => ?_
          refine th_n ?_
          refine aw_cond rfl (fun _ => ?_) (fun h => by cases h)
          refine aw_seq ?_
          refine aw_reg ?_
          refine rs_mv rfl rfl ?_
          refine rs_nil fun _ => ?_
          refine th_n ?_
          refine aw_ret ?_
          refine in_r ?_
          refine th_r ?_
          (exfalso; omega)
      · skip
        refine rs_pick rfl rfl rfl ?_
        refine rs_mv rfl rfl ?_
        refine rs_skip rfl ?_
        refine rs_skip rfl ?_
        refine rs_skip rfl ?_
        refine rs_skip rfl ?_
        refine rs_pick rfl rfl rfl ?_
        refine rs_mv rfl rfl ?_
        refine rs_skip rfl ?_
        refine rs_skip rfl ?_
        refine rs_skip rfl ?_
        refine rs_skip rfl ?_
        refine rs_pick rfl rfl rfl ?_
        refine rs_mv rfl rfl ?_
        refine rs_skip rfl ?_
        refine rs_skip rfl ?_
        refine rs_skip rfl ?_
        refine rs_skip rfl ?_
        refine rs_pick rfl rfl rfl ?_
        refine rs_mv rfl rfl ?_
        refine rs_nil fun _ => ?_
        refine th_n ?_
        refine aw_cond rfl (fun _ => ?_) (fun h => by cases h)
        refine aw_seq ?_
        refine aw_reg ?_
        refine rs_mv rfl rfl ?_
        refine rs_nil fun _ => ?_
        refine th_n ?_
        refine aw_ret ?_
        refine in_r ?_
        refine th_r ?_
        (exfalso; omega)
    · skip
      refine rs_skip rfl ?_
      refine rs_skip rfl ?_
      refine rs_skip rfl ?_
      refine rs_skip rfl ?_
      refine rs_pick rfl rfl rfl ?_
      refine rs_mv rfl rfl ?_
      refine rs_skip rfl ?_
      refine rs_skip rfl ?_
      refine rs_skip rfl ?_
      refine rs_skip rfl ?_
      refine rs_pick rfl rfl rfl ?_
      refine rs_mv rfl rfl ?_
      refine rs_skip rfl ?_
      refine rs_skip rfl ?_
      refine rs_skip rfl ?_
      refine rs_skip rfl ?_
      refine rs_pick rfl rfl rfl ?_
      refine rs_mv rfl rfl ?_
      refine rs_skip rfl ?_
      refine rs_skip rfl ?_
      refine rs_skip rfl ?_
      refine rs_skip rfl ?_
      refine rs_pick rfl rfl rfl ?_
      refine rs_mv rfl rfl ?_
      refine rs_nil fun _ => ?_
      refine th_n ?_
      refine aw_cond rfl (fun _ => ?_) (fun h => by cases h)
      refine aw_seq ?_
      refine aw_reg ?_
      refine rs_mv rfl rfl ?_
      refine rs_nil fun _ => ?_
      refine th_n ?_
      refine aw_ret ?_
      refine in_r ?_
      refine th_r ?_
      (exfalso; omega)
  · replace h10 := of_decide_eq_false h10
    refine aw_skip ?_
    refine th_n ?_
    refine aw_seq ?_
    refine aw_block ?_
    refine aw_seq ?_
    refine aw_reg ?_
    refine rs_mv rfl rfl ?_
    refine rs_ifnil_i rfl rfl ?_
    refine rs_mv rfl rfl ?_
    refine rs_nil fun _ => ?_
    refine th_n ?_
    refine aw_cond rfl (fun h => by cases h) (fun _ => ?_)
    refine aw_seq ?_
    refine aw_reg ?_
    refine rs_fa_p rfl rfl ?_
    refine rs_ld_pa rfl rfl rfl rfl (Nat.le_of_ble_eq_true rfl) rfl ?_
    refine rs_calln [] rfl rfl (fc40 m.fr) (.cons (hv_same rfl) (.nil)) rfl ?_
    refine rs_not rfl rfl ?_
    refine rs_mv rfl rfl ?_
    cases h19 : !inS m.fr
    · skip
      refine rs_fa_p rfl rfl ?_
      refine rs_ld_pa rfl rfl rfl rfl (Nat.le_of_ble_eq_true rfl) rfl ?_
      refine rs_calln [] rfl rfl (fc40 m.to) (.cons (hv_same rfl) (.nil)) rfl ?_
      refine rs_not rfl rfl ?_
      cases h23 : !inS m.to
      · skip
        refine rs_pick rfl rfl rfl ?_
        refine rs_mv rfl rfl ?_
        refine rs_fa_p rfl rfl ?_
        refine rs_ld_pa rfl rfl rfl rfl (Nat.le_of_ble_eq_true rfl) rfl ?_
        refine rs_calln [] rfl rfl (fc40 m.co) (.cons (hv_same rfl) (.nil)) rfl ?_
        refine rs_not rfl rfl ?_
        cases h29 : !inS m.co
        · skip
          refine rs_pick rfl rfl rfl ?_
          refine rs_mv rfl rfl ?_
          refine rs_fa_p rfl rfl ?_
          refine rs_ld_p rfl rfl rfl rfl rfl ?_
          refine rs_mv rfl rfl ?_
          refine rs_cmp rfl rfl rfl rfl (fun h35 => ?_) (fun h35 => ?_)
          · skip
            refine rs_pick rfl rfl rfl ?_
            refine rs_mv rfl rfl ?_
            refine rs_skip rfl ?_
            refine rs_skip rfl ?_
            refine rs_skip rfl ?_
            refine rs_skip rfl ?_
            refine rs_pick rfl rfl rfl ?_
            refine rs_mv rfl rfl ?_
            refine rs_nil fun _ => ?_
            refine th_n ?_
            refine aw_cond rfl (fun _ => ?_) (fun h => by cases h)
            refine aw_seq ?_
            refine aw_reg ?_
            refine rs_mv rfl rfl ?_
            refine rs_nil fun _ => ?_
            refine th_n ?_
            refine aw_ret ?_
            refine in_r ?_
            refine th_r ?_
            exact ret_pure rfl (congrArg iv (by unfold checkS; simp_all [rangeB]; done)) rfl (.inr rfl)
          · skip
            refine rs_pick rfl rfl rfl ?_
            refine rs_mv rfl rfl ?_
            refine rs_fa_p rfl rfl ?_
            refine rs_ld_p rfl rfl rfl rfl rfl ?_
            refine rs_mv rfl rfl ?_
            refine rs_cmp rfl rfl rfl rfl (fun h41 => ?_) (fun h41 => ?_)
            · skip
              refine rs_pick rfl rfl rfl ?_
              refine rs_mv rfl rfl ?_
              refine rs_nil fun _ => ?_
              refine th_n ?_
              refine aw_cond rfl (fun _ => ?_) (fun h => by cases h)
              refine aw_seq ?_
              refine aw_reg ?_
              refine rs_mv rfl rfl ?_
              refine rs_nil fun _ => ?_
              refine th_n ?_
              refine aw_ret ?_
              refine in_r ?_
              refine th_r ?_
              exact ret_pure rfl (congrArg iv (by unfold checkS; simp_all [rangeB]; done)) rfl (.inr rfl)
            · skip
              refine rs_pick rfl rfl rfl ?_
              refine rs_mv rfl rfl ?_
              refine rs_nil fun _ => ?_
              refine th_n ?_
              refine aw_cond rfl (fun h => by cases h) (fun _ => ?_)
              refine aw_seq ?_
              refine aw_reg ?_
              refine rs_mv rfl rfl ?_
              refine rs_invn [] rfl rfl (by kernel_rfl) (by kernel_rfl) rfl (fc79 m (inM_of h19 h23 h29)) (.cons (hv_same rfl) (.nil)) rfl ?_
              refine rs_not rfl rfl ?_
              cases h46 : !fitsA m
              · skip
                refine rs_mv rfl rfl ?_
                refine rs_nil fun _ => ?_
                refine th_n ?_
                refine aw_cond rfl (fun h => by cases h) (fun _ => ?_)
                refine aw_skip ?_
                refine in_n ?_
                refine th_n ?_
                refine aw_seq ?_
                refine aw_reg ?_
                refine rs_mv rfl rfl ?_
                refine rs_nil fun _ => ?_
                refine th_n ?_
                refine aw_ret ?_
                exact ret_pure rfl (congrArg iv (by unfold checkS; simp_all [rangeB]; done)) rfl (.inr rfl)
              · skip
                refine rs_mv rfl rfl ?_
                refine rs_nil fun _ => ?_
                refine th_n ?_
                refine aw_cond rfl (fun _ => ?_) (fun h => by cases h)
                refine aw_seq ?_
                refine aw_reg ?_
                refine rs_mv rfl rfl ?_
                refine rs_nil fun _ => ?_
                refine th_n ?_
                refine aw_ret ?_
                refine in_r ?_
                refine th_r ?_
                exact ret_pure rfl (congrArg iv (by unfold checkS; simp_all [rangeB]; done)) rfl (.inr rfl)
        · skip
          refine rs_pick rfl rfl rfl ?_
          refine rs_mv rfl rfl ?_
          refine rs_skip rfl ?_
          refine rs_skip rfl ?_
          refine rs_skip rfl ?_
          refine rs_skip rfl ?_
          refine rs_pick rfl rfl rfl ?_
          refine rs_mv rfl rfl ?_
          refine rs_skip rfl ?_
          refine rs_skip rfl ?_
          refine rs_skip rfl ?_
          refine rs_skip rfl ?_
          refine rs_pick rfl rfl rfl ?_
          refine rs_mv rfl rfl ?_
          refine rs_nil fun _ => ?_
          refine th_n ?_
          refine aw_cond rfl (fun _ => ?_) (fun h => by cases h)
          refine aw_seq ?_
          refine aw_reg ?_
          refine rs_mv rfl rfl ?_
          refine rs_nil fun _ => ?_
          refine th_n ?_
          refine aw_ret ?_
          refine in_r ?_
          refine th_r ?_
          exact ret_pure rfl (congrArg iv (by unfold checkS; simp_all [rangeB]; done)) rfl (.inr rfl)
      · skip
        refine rs_pick rfl rfl rfl ?_
        refine rs_mv rfl rfl ?_
        refine rs_skip rfl ?_
        refine rs_skip rfl ?_
        refine rs_skip rfl ?_
        refine rs_skip rfl ?_
        refine rs_pick rfl rfl rfl ?_
        refine rs_mv rfl rfl ?_
        refine rs_skip rfl ?_
        refine rs_skip rfl ?_
        refine rs_skip rfl ?_
        refine rs_skip rfl ?_
        refine rs_pick rfl rfl rfl ?_
        refine rs_mv rfl rfl ?_
        refine rs_skip rfl ?_
        refine rs_skip rfl ?_
        refine rs_skip rfl ?_
        refine rs_skip rfl ?_
        refine rs_pick rfl rfl rfl ?_
        refine rs_mv rfl rfl ?_
        refine rs_nil fun _ => ?_
        refine th_n ?_
        refine aw_cond rfl (fun _ => ?_) (fun h => by cases h)
        refine aw_seq ?_
        refine aw_reg ?_
        refine rs_mv rfl rfl ?_
        refine rs_nil fun _ => ?_
        refine th_n ?_
        refine aw_ret ?_
        refine in_r ?_
        refine th_r ?_
        exact ret_pure rfl (congrArg iv (by unfold checkS; simp_all [rangeB]; done)) rfl (.inr rfl)
    · skip
      refine rs_skip rfl ?_
      refine rs_skip rfl ?_
      refine rs_skip rfl ?_
      refine rs_skip rfl ?_
      refine rs_pick rfl rfl rfl ?_
      refine rs_mv rfl rfl ?_
      refine rs_skip rfl ?_
      refine rs_skip rfl ?_
      refine rs_skip rfl ?_
      refine rs_skip rfl ?_
      refine rs_pick rfl rfl rfl ?_
      refine rs_mv rfl rfl ?_
      refine rs_skip rfl ?_
      refine rs_skip rfl ?_
      refine rs_skip rfl ?_
      refine rs_skip rfl ?_
      refine rs_pick rfl rfl rfl ?_
      refine rs_mv rfl rfl ?_
      refine rs_skip rfl ?_
      refine rs_skip rfl ?_
      refine rs_skip rfl ?_
      refine rs_skip rfl ?_
      refine rs_pick rfl rfl rfl ?_
      refine rs_mv rfl rfl ?_
      refine rs_nil fun _ => ?_
      refine th_n ?_
      refine aw_cond rfl (fun _ => ?_) (fun h => by cases h)
      refine aw_seq ?_
      refine aw_reg ?_
      refine rs_mv rfl rfl ?_
      refine rs_nil fun _ => ?_
      refine th_n ?_
      refine aw_ret ?_
      refine in_r ?_
      refine th_r ?_
      exact ret_pure rfl (congrArg iv (by unfold checkS; simp_all [rangeB]; done)) rfl (.inr rfl)

theorem fc12_n (m : Mv) (hk : ¬ m.kind = 1 ∧ ¬ m.kind = 2 ∧ ¬ m.kind = 3) : FC Try.prog 54 [aM m] [] (iv (checkS m)) [] false := by
  refine fc_run (nt := 47) Try.func54 rfl rfl mcOk12 (Nat.le_of_ble_eq_true rfl) ?_
  delta mc12
  refine aw_seq ?_
  refine aw_reg ?_
  refine rs_box rfl rfl rfl rfl rfl rfl ?_
  refine rs_mv rfl rfl ?_
  refine rs_nil fun _ => ?_
  refine th_n ?_
  refine aw_seq ?_
  refine aw_reg ?_
  refine rs_ld_pa rfl rfl rfl rfl (Nat.le_of_ble_eq_true rfl) rfl ?_
  refine rs_calln [] rfl rfl (fc39_n m hk) (.cons (hv_same rfl) (.nil)) rfl ?_
  refine rs_mv rfl rfl ?_
  refine rs_nil fun _ => ?_
  refine th_n ?_
  refine aw_seq ?_
  refine aw_reg ?_
  refine rs_mv rfl rfl ?_
  refine rs_mv rfl rfl ?_
  refine rs_nil fun _ => ?_
  refine th_n ?_
  refine aw_seq ?_
  refine aw_seq ?_
  refine aw_reg ?_
  refine rs_fa_p rfl rfl ?_
  refine rs_ld_p rfl rfl rfl rfl rfl ?_
  refine rs_eql rfl rfl rfl ?_
  refine rs_nil fun _ => ?_
  refine th_n ?_
  refine aw_cond rfl (fun h10 => ?_) (fun h10 => ?_)
  · replace h10 := of_decide_eq_true h10
    refine aw_reg ?_
    refine rs_mv rfl rfl ?_
    refine rs_mv rfl rfl ?_
    refine rs_nil fun _ => ?_
    refine th_n ?_
    refine aw_seq ?_
    refine aw_block ?_
    refine aw_seq ?_
    refine aw_reg ?_
    refine rs_mv rfl rfl ?_
    refine rs_ifnil_n rfl rfl ?_
    refine rs_mv rfl rfl ?_
    refine rs_nil fun _ => ?_
    refine th_n ?_
    refine aw_cond rfl (fun _ => ?_) (fun h => by cases h)
    refine aw_seq ?_
    refine aw_reg ?_
    refine rs_mv rfl rfl ?_
    refine rs_nil fun _ => ?_
    refine th_n ?_
    refine aw_ret ?_
    refine in_r ?_
    refine th_r ?_
    (exfalso; omega)
  · replace h10 := of_decide_eq_false h10
    refine aw_skip ?_
    refine th_n ?_
    refine aw_seq ?_
    refine aw_block ?_
    refine aw_seq ?_
    refine aw_reg ?_
    refine rs_mv rfl rfl ?_
    refine rs_ifnil_n rfl rfl ?_
    refine rs_mv rfl rfl ?_
    refine rs_nil fun _ => ?_
    refine th_n ?_
    refine aw_cond rfl (fun _ => ?_) (fun h => by cases h)
    refine aw_seq ?_
    refine aw_reg ?_
    refine rs_mv rfl rfl ?_
    refine rs_nil fun _ => ?_
    refine th_n ?_
    refine aw_ret ?_
    refine in_r ?_
    refine th_r ?_
    exact ret_pure rfl (congrArg iv (by unfold checkS; simp_all [rangeB]; done)) rfl (.inr rfl)

theorem fc12 (m : Mv) : FC Try.prog 54 [aM m] [] (iv (checkS m)) [] false := by
  by_cases h1 : m.kind = 1 ∨ m.kind = 2
  · exact fc12_l m h1
  · by_cases h3 : m.kind = 3
    · exact fc12_a m h3
    · exact fc12_n m (by omega)

def mc42 : MC := (.seq (.reg [⟨(some 1), (.box 82 11 (.t 0)), none, []⟩, ⟨(some 2), (.mv (.c (.bool false))), none, []⟩] false) (.seq (.reg [⟨(some 5), (.fa 1 (.t 1)), none, []⟩, ⟨(some 6), (.ld true 3 (.t 5)), none, [0]⟩, ⟨(some 7), (.fa 7 (.t 1)), none, []⟩, ⟨(some 8), (.ld true 3 (.t 7)), none, [2]⟩, ⟨(some 9), (.call 61 [(.t 6), (.t 8)]), none, [1, 3]⟩, ⟨(some 3), (.alloc 80 3 [(.int .i64 0), (.int .i64 0), (.int .i64 0)]), none, []⟩, ⟨none, (.st 3 (.t 3) (.t 9)), none, [5, 4, 4, 0, 1, 2, 3, 4, 5]⟩] false) (.seq (.reg [⟨(some 10), (.fa 4 (.t 1)), none, []⟩, ⟨(some 11), (.ld true 3 (.t 10)), none, [0]⟩, ⟨(some 12), (.fa 7 (.t 1)), none, []⟩, ⟨(some 13), (.ld true 3 (.t 12)), none, [2]⟩, ⟨(some 14), (.call 61 [(.t 11), (.t 13)]), none, [1, 3]⟩, ⟨(some 4), (.alloc 80 3 [(.int .i64 0), (.int .i64 0), (.int .i64 0)]), none, []⟩, ⟨none, (.st 3 (.t 4) (.t 14)), none, [5, 4, 4, 0, 1, 2, 3, 4, 5]⟩] false) (.seq (.reg [⟨(some 15), (.ld true 3 (.t 3)), none, []⟩, ⟨(some 16), (.call 75 [(.t 15)]), none, [0]⟩, ⟨(some 17), (.bin .geq (.t 16) (.c (.int .i64 1))), none, [1]⟩, ⟨(some 18), (.mv (.t 17)), none, [2, 1]⟩, ⟨(some 19), (.ld true 3 (.t 3)), (some (18, true)), [3]⟩, ⟨(some 20), (.call 75 [(.t 19)]), (some (18, true)), [4, 3, 3]⟩, ⟨(some 21), (.ld true 3 (.t 4)), (some (18, true)), [3]⟩, ⟨(some 22), (.call 75 [(.t 21)]), (some (18, true)), [6, 5, 3]⟩, ⟨(some 23), (.bin .eql (.t 20) (.t 22)), (some (18, true)), [5, 7, 3]⟩, ⟨(some 24), (.pick (.t 18) (.t 23) (.c (.bool false))), none, [3, 8]⟩, ⟨(some 25), (.mv (.t 24)), none, [9, 7]⟩, ⟨(some 26), (.ld true 3 (.t 3)), (some (25, true)), [10]⟩, ⟨(some 27), (.ld true 3 (.t 4)), (some (25, true)), [10]⟩, ⟨(some 28), (.call 76 [(.t 26), (.t 27)]), (some (25, true)), [11, 12, 10, 10]⟩, ⟨(some 29), (.bin .eql (.t 28) (.c (.int .i64 0))), (some (25, true)), [13, 10]⟩, ⟨(some 30), (.pick (.t 25) (.t 29) (.c (.bool false))), none, [10, 14]⟩, ⟨(some 2), (.mv (.t 30)), none, [15, 13, 0, 1, 2, 3, 4, 5, 6, 7, 8, 9, 10, 11, 12, 13, 14, 15]⟩] true) .ret))))
theorem mcOk42 : (match Try.f66.body with | some c => compC Try.prog 31 c | none => none) = some mc42 := by kernel_rfl

theorem fc42 (m : Mv) (h : InM m) : FC Try.prog 66 [aM m] [] (.bool (quarterS m)) [] false := by
  have ha : Bd 1000 (sub m.fr m.co) := (h.fr.sub h.co).mono (by omega)
  have hb : Bd 1000 (sub m.to m.co) := (h.to.sub h.co).mono (by omega)
  refine fc_run (nt := 31) Try.func66 rfl rfl mcOk42 (Nat.le_of_ble_eq_true rfl) ?_
  delta mc42
  refine aw_seq ?_
  refine aw_reg ?_
  refine rs_box rfl rfl rfl rfl rfl rfl ?_
  refine rs_mv rfl rfl ?_
  refine rs_nil fun _ => ?_
  refine th_n ?_
  refine aw_seq ?_
  refine aw_reg ?_
  refine rs_fa_p rfl rfl ?_
  refine rs_ld_pa rfl rfl rfl rfl (Nat.le_of_ble_eq_true rfl) rfl ?_
  refine rs_fa_p rfl rfl ?_
  refine rs_ld_pa rfl rfl rfl rfl (Nat.le_of_ble_eq_true rfl) rfl ?_
  refine rs_calln [] rfl rfl (fc50s h.fr.big h.co.big) (.cons (hv_same rfl) (.cons (hv_same rfl) (.nil))) rfl ?_
  refine rs_alloc rfl rfl rfl ?_
  refine rs_st rfl rfl rfl rfl rfl rfl rfl (Nat.le_of_ble_eq_true rfl) rfl rfl ?_
  refine rs_nil fun _ => ?_
  refine th_n ?_
  refine aw_seq ?_
  refine aw_reg ?_
  refine rs_fa_p rfl rfl ?_
  refine rs_ld_pa rfl rfl rfl rfl (Nat.le_of_ble_eq_true rfl) rfl ?_
  refine rs_fa_p rfl rfl ?_
  refine rs_ld_pa rfl rfl rfl rfl (Nat.le_of_ble_eq_true rfl) rfl ?_
  refine rs_calln [] rfl rfl (fc50s h.to.big h.co.big) (.cons (hv_same rfl) (.cons (hv_same rfl) (.nil))) rfl ?_
  refine rs_alloc rfl rfl rfl ?_
  refine rs_st rfl rfl rfl rfl rfl rfl rfl (Nat.le_of_ble_eq_true rfl) rfl rfl ?_
  refine rs_nil fun _ => ?_
  refine th_n ?_
  refine aw_seq ?_
  refine aw_draw hmix ?_
  refine rs_ld_pa rfl rfl rfl rfl (Nat.le_of_ble_eq_true rfl) rfl ?_
  refine rs_calln [] rfl rfl (fc51 _ ha.big) (.cons (hv_same rfl) (.nil)) rfl ?_
  refine rs_cmp rfl rfl rfl rfl (fun h17 => ?_) (fun h17 => ?_)
  · skip
    refine rs_mv rfl rfl ?_
    refine rs_ld_pa rfl rfl rfl rfl (Nat.le_of_ble_eq_true rfl) rfl ?_
    refine rs_calln [] rfl rfl (fc51 _ ha.big) (.cons (hv_same rfl) (.nil)) rfl ?_
    refine rs_ld_pa rfl rfl rfl rfl (Nat.le_of_ble_eq_true rfl) rfl ?_
    refine rs_calln [] rfl rfl (fc51 _ hb.big) (.cons (hv_same rfl) (.nil)) rfl ?_
    refine rs_cmp rfl rfl rfl rfl (fun h23 => ?_) (fun h23 => ?_)
    · skip
      refine rs_pick rfl rfl rfl ?_
      refine rs_mv rfl rfl ?_
      refine rs_ld_pa rfl rfl rfl rfl (Nat.le_of_ble_eq_true rfl) rfl ?_
      refine rs_ld_pa rfl rfl rfl rfl (Nat.le_of_ble_eq_true rfl) rfl ?_
      refine rs_calln [] rfl rfl (fc52s ha.big hb.big) (.cons (hv_same rfl) (.cons (hv_same rfl) (.nil))) rfl ?_
      refine rs_cmp rfl rfl rfl rfl (fun h29 => ?_) (fun h29 => ?_)
      · skip
        refine rs_pick rfl rfl rfl ?_
        refine rs_mv rfl rfl ?_
        refine rs_nil ⟨by kernel_rfl, fun _ => ?_⟩
        refine th_n ?_
        refine aw_ret ?_
        exact ret_pure rfl (congrArg AV.bool (by first | (simp_all [quarterS]; done) | (simp_all [quarterS]; intros; omega))) rfl (.inr rfl)
      · skip
        refine rs_pick rfl rfl rfl ?_
        refine rs_mv rfl rfl ?_
        refine rs_nil ⟨by kernel_rfl, fun _ => ?_⟩
        refine th_n ?_
        refine aw_ret ?_
        exact ret_pure rfl (congrArg AV.bool (by first | (simp_all [quarterS]; done) | (simp_all [quarterS]; intros; omega))) rfl (.inr rfl)
    · skip
      refine rs_pick rfl rfl rfl ?_
      refine rs_mv rfl rfl ?_
      refine rs_skip rfl ?_
      refine rs_skip rfl ?_
      refine rs_skip rfl ?_
      refine rs_skip rfl ?_
      refine rs_pick rfl rfl rfl ?_
      refine rs_mv rfl rfl ?_
      refine rs_nil ⟨by kernel_rfl, fun _ => ?_⟩
      refine th_n ?_
      refine aw_ret ?_
      exact ret_pure rfl (congrArg AV.bool (by first | (simp_all [quarterS]; done) | (simp_all [quarterS]; intros; omega))) rfl (.inr rfl)
  · skip
    refine rs_mv rfl rfl ?_
    refine rs_skip rfl ?_
    refine rs_skip rfl ?_
    refine rs_skip rfl ?_
    refine rs_skip rfl ?_
    refine rs_skip rfl ?_
    refine rs_pick rfl rfl rfl ?_
    refine rs_mv rfl rfl ?_
    refine rs_skip rfl ?_
    refine rs_skip rfl ?_
    refine rs_skip rfl ?_
    refine rs_skip rfl ?_
    refine rs_pick rfl rfl rfl ?_
    refine rs_mv rfl rfl ?_
    refine rs_nil ⟨by kernel_rfl, fun _ => ?_⟩
    refine th_n ?_
    refine aw_ret ?_
    exact ret_pure rfl (congrArg AV.bool (by first | (simp_all [quarterS]; done) | (simp_all [quarterS]; intros; omega))) rfl (.inr rfl)

def mc13 : MC := (.seq (.reg [⟨(some 1), (.box 82 11 (.t 0)), none, []⟩, ⟨(some 2), (.mv (.c (.int .i64 0))), none, []⟩] false) (.seq (.seq (.reg [⟨(some 3), (.fa 0 (.t 1)), none, []⟩, ⟨(some 4), (.ld false 1 (.t 3)), none, [0]⟩, ⟨(some 5), (.bin .lss (.t 4) (.c (.int .i64 1))), none, [1]⟩, ⟨(some 6), (.mv (.t 5)), none, [2]⟩, ⟨(some 7), (.fa 0 (.t 1)), (some (6, false)), [3]⟩, ⟨(some 8), (.ld false 1 (.t 7)), (some (6, false)), [4, 3]⟩, ⟨(some 9), (.bin .gtr (.t 8) (.c (.int .i64 3))), (some (6, false)), [5, 3]⟩, ⟨(some 10), (.pick (.t 6) (.c (.bool true)) (.t 9)), none, [3, 6]⟩] false) (.cond (.t 10) (.seq (.reg [⟨(some 2), (.mv (.c (.int .i64 16))), none, []⟩] false) .ret) .skip)) (.seq (.seq (.reg [⟨(some 11), (.fa 1 (.t 1)), none, []⟩, ⟨(some 12), (.ld true 3 (.t 11)), none, [0]⟩, ⟨(some 13), (.call 65 [(.t 12)]), none, [1]⟩, ⟨(some 14), (.un .not (.t 13)), none, [2]⟩, ⟨(some 15), (.mv (.t 14)), none, [3, 2]⟩, ⟨(some 16), (.fa 4 (.t 1)), (some (15, false)), [4]⟩, ⟨(some 17), (.ld true 3 (.t 16)), (some (15, false)), [5, 4]⟩, ⟨(some 18), (.call 65 [(.t 17)]), (some (15, false)), [6, 4, 4]⟩, ⟨(some 19), (.un .not (.t 18)), (some (15, false)), [7, 4]⟩, ⟨(some 20), (.pick (.t 15) (.c (.bool true)) (.t 19)), none, [4, 8]⟩, ⟨(some 21), (.mv (.t 20)), none, [9, 7]⟩, ⟨(some 22), (.fa 7 (.t 1)), (some (21, false)), [10]⟩, ⟨(some 23), (.ld true 3 (.t 22)), (some (21, false)), [11, 10]⟩, ⟨(some 24), (.call 65 [(.t 23)]), (some (21, false)), [12, 10, 10]⟩, ⟨(some 25), (.un .not (.t 24)), (some (21, false)), [13, 10]⟩, ⟨(some 26), (.pick (.t 21) (.c (.bool true)) (.t 25)), none, [10, 14]⟩] false) (.cond (.t 26) (.seq (.reg [⟨(some 2), (.mv (.c (.int .i64 3))), none, []⟩] false) .ret) .skip)) (.seq (.seq (.reg [⟨(some 27), (.fa 0 (.t 1)), none, []⟩, ⟨(some 28), (.ld false 1 (.t 27)), none, [0]⟩, ⟨(some 29), (.bin .eql (.t 28) (.c (.int .i64 1))), none, [1]⟩, ⟨(some 30), (.mv (.t 29)), none, [2]⟩, ⟨(some 31), (.fa 10 (.t 1)), (some (30, true)), [3]⟩, ⟨(some 32), (.ld false 1 (.t 31)), (some (30, true)), [4, 3]⟩, ⟨(some 33), (.bin .neq (.t 32) (.c (.int .i64 0))), (some (30, true)), [5, 3]⟩, ⟨(some 34), (.pick (.t 30) (.t 33) (.c (.bool false))), none, [3, 6]⟩, ⟨(some 35), (.mv (.t 34)), none, [7, 3]⟩, ⟨(some 36), (.fa 0 (.t 1)), (some (35, false)), [8]⟩, ⟨(some 37), (.ld false 1 (.t 36)), (some (35, false)), [9, 8]⟩, ⟨(some 38), (.bin .neq (.t 37) (.c (.int .i64 1))), (some (35, false)), [10, 8]⟩, ⟨(some 39), (.mv (.t 38)), (some (35, false)), [11, 8, 8]⟩, ⟨(some 40), (.fa 10 (.t 1)), (some (39, true)), [12]⟩, ⟨(some 41), (.ld false 1 (.t 40)), (some (39, true)), [13, 12]⟩, ⟨(some 42), (.bin .lss (.t 41) (.c (.int .i64 1))), (some (39, true)), [14, 12]⟩, ⟨(some 43), (.mv (.t 42)), (some (39, true)), [15, 12, 12]⟩, ⟨(some 44), (.fa 10 (.t 1)), (some (43, false)), [16]⟩, ⟨(some 45), (.ld false 1 (.t 44)), (some (43, false)), [17, 16]⟩, ⟨(some 46), (.bin .gtr (.t 45) (.c (.int .i64 100))), (some (43, false)), [18, 16]⟩, ⟨(some 47), (.pick (.t 43) (.c (.bool true)) (.t 46)), (some (39, true)), [16, 19, 12]⟩, ⟨(some 48), (.pick (.t 39) (.t 47) (.c (.bool false))), (some (35, false)), [12, 20, 8]⟩, ⟨(some 49), (.pick (.t 35) (.c (.bool true)) (.t 48)), none, [8, 21]⟩] false) (.cond (.t 49) (.seq (.reg [⟨(some 2), (.mv (.c (.int .i64 3))), none, []⟩] false) .ret) .skip)) (.seq (.seq (.reg [⟨(some 50), (.fa 1 (.t 1)), none, []⟩, ⟨(some 51), (.ld true 3 (.t 50)), none, [0]⟩, ⟨(some 52), (.fa 4 (.t 1)), none, []⟩, ⟨(some 53), (.ld true 3 (.t 52)), none, [2]⟩, ⟨(some 54), (.aeq false 3 (.t 51) (.t 53)), none, [1, 3]⟩, ⟨(some 55), (.mv (.t 54)), none, [4]⟩, ⟨(some 56), (.fa 0 (.t 1)), (some (55, false)), [5]⟩, ⟨(some 57), (.ld false 1 (.t 56)), (some (55, false)), [6, 5]⟩, ⟨(some 58), (.bin .neq (.t 57) (.c (.int .i64 3))), (some (55, false)), [7, 5]⟩, ⟨(some 59), (.mv (.t 58)), (some (55, false)), [8, 5, 5]⟩, ⟨(some 60), (.fa 7 (.t 1)), (some (59, true)), [9]⟩, ⟨(some 61), (.ld true 3 (.t 60)), (some (59, true)), [10, 9]⟩, ⟨(some 62), (.build [(.int .i64 0), (.int .i64 0), (.int .i64 0)] []), (some (59, true)), [9]⟩, ⟨(some 63), (.aeq true 3 (.t 61) (.t 62)), (some (59, true)), [11, 12, 9]⟩, ⟨(some 64), (.pick (.t 59) (.t 63) (.c (.bool false))), (some (55, false)), [9, 13, 5]⟩, ⟨(some 65), (.pick (.t 55) (.c (.bool true)) (.t 64)), none, [5, 14]⟩, ⟨(some 66), (.mv (.t 65)), none, [15, 9]⟩, ⟨(some 67), (.fa 0 (.t 1)), (some (66, false)), [16]⟩, ⟨(some 68), (.ld false 1 (.t 67)), (some (66, false)), [17, 16]⟩, ⟨(some 69), (.bin .eql (.t 68) (.c (.int .i64 3))), (some (66, false)), [18, 16]⟩, ⟨(some 70), (.mv (.t 69)), (some (66, false)), [19, 16, 16]⟩, ⟨(some 71), (.ld true 11 (.t 1)), (some (70, true)), [20]⟩, ⟨(some 72), (.call 66 [(.t 71)]), (some (70, true)), [21, 20, 20]⟩, ⟨(some 73), (.un .not (.t 72)), (some (70, true)), [22, 20]⟩, ⟨(some 74), (.pick (.t 70) (.t 73) (.c (.bool false))), (some (66, false)), [20, 23, 16]⟩, ⟨(some 75), (.pick (.t 66) (.c (.bool true)) (.t 74)), none, [16, 24]⟩] false) (.cond (.t 75) (.seq (.reg [⟨(some 2), (.mv (.c (.int .i64 16))), none, []⟩] false) .ret) .skip)) (.seq (.reg [⟨(some 2), (.mv (.c (.int .i64 0))), none, []⟩] false) .ret))))))
theorem mcOk13 : (match Try.f55.body with | some c => compC Try.prog 76 c | none => none) = some mc13 := by kernel_rfl

theorem fc13 (m : Mv) : FC Try.prog 55 [aM m] [] (iv (checkR m)) [] false := by
  refine fc_run (nt := 76) Try.func55 rfl rfl mcOk13 (Nat.le_of_ble_eq_true rfl) ?_
  delta mc13
  refine aw_seq ?_
  refine aw_reg ?_
  refine rs_box rfl rfl rfl rfl rfl rfl ?_
  refine rs_mv rfl rfl ?_
  refine rs_nil fun _ => ?_
  refine th_n ?_
  refine aw_seq ?_
  refine aw_seq ?_
  refine aw_reg ?_
  refine rs_fa_p rfl rfl ?_
  refine rs_ld_p rfl rfl rfl rfl rfl ?_
  refine rs_cmp rfl rfl rfl rfl (fun h5 => ?_) (fun h5 => ?_)
  · skip
    refine rs_mv rfl rfl ?_
    refine rs_skip rfl ?_
    refine rs_skip rfl ?_
    refine rs_skip rfl ?_
    refine rs_pick rfl rfl rfl ?_
    refine rs_nil fun _ => ?_
    refine th_n ?_
    refine aw_cond rfl (fun _ => ?_) (fun h => by cases h)
    refine aw_seq ?_
    refine aw_reg ?_
    refine rs_mv rfl rfl ?_
    refine rs_nil fun _ => ?_
    refine th_n ?_
    refine aw_ret ?_
    refine th_r ?_
    first
      | (exfalso; omega)
      | exact ret_pure rfl (congrArg iv (by
          have hm1 : m.kind < 1 ∨ 3 < m.kind ∨ ¬ (m.kind < 1 ∨ 3 < m.kind) := by omega
          unfold checkR
          first
            | rw [if_pos (by omega)]
            | (rw [if_neg (by omega)]; simp_all [feedR, lastR]; done)
            | (rw [if_neg (by omega)]; simp_all [feedR, lastR]; omega))) rfl (.inr rfl)
  · skip
    refine rs_mv rfl rfl ?_
    refine rs_fa_p rfl rfl ?_
    refine rs_ld_p rfl rfl rfl rfl rfl ?_
    refine rs_cmp rfl rfl rfl rfl (fun h9 => ?_) (fun h9 => ?_)
    · skip
      refine rs_pick rfl rfl rfl ?_
      refine rs_nil fun _ => ?_
      refine th_n ?_
      refine aw_cond rfl (fun _ => ?_) (fun h => by cases h)
      refine aw_seq ?_
      refine aw_reg ?_
      refine rs_mv rfl rfl ?_
      refine rs_nil fun _ => ?_
      refine th_n ?_
      refine aw_ret ?_
      refine th_r ?_
      first
        | (exfalso; omega)
        | exact ret_pure rfl (congrArg iv (by
            have hm1 : m.kind < 1 ∨ 3 < m.kind ∨ ¬ (m.kind < 1 ∨ 3 < m.kind) := by omega
            unfold checkR
            first
              | rw [if_pos (by omega)]
              | (rw [if_neg (by omega)]; simp_all [feedR, lastR]; done)
              | (rw [if_neg (by omega)]; simp_all [feedR, lastR]; omega))) rfl (.inr rfl)
    · skip
      refine rs_pick rfl rfl rfl ?_
      refine rs_nil fun _ => ?_
      refine th_n ?_
      refine aw_cond rfl (fun h => by cases h) (fun _ => ?_)
      refine aw_skip ?_
      refine th_n ?_
      refine aw_seq ?_
      refine aw_seq ?_
      refine aw_reg ?_
      refine rs_fa_p rfl rfl ?_
      refine rs_ld_pa rfl rfl rfl rfl (Nat.le_of_ble_eq_true rfl) rfl ?_
      refine rs_calln [] rfl rfl (fc41 m.fr) (.cons (hv_same rfl) (.nil)) rfl ?_
      refine rs_not rfl rfl ?_
      refine rs_mv rfl rfl ?_
      cases h15 : !inS m.fr
      · skip
        refine rs_fa_p rfl rfl ?_
        refine rs_ld_pa rfl rfl rfl rfl (Nat.le_of_ble_eq_true rfl) rfl ?_
        refine rs_calln [] rfl rfl (fc41 m.to) (.cons (hv_same rfl) (.nil)) rfl ?_
        refine rs_not rfl rfl ?_
        cases h19 : !inS m.to
        · skip
          refine rs_pick rfl rfl rfl ?_
          refine rs_mv rfl rfl ?_
          refine rs_fa_p rfl rfl ?_
          refine rs_ld_pa rfl rfl rfl rfl (Nat.le_of_ble_eq_true rfl) rfl ?_
          refine rs_calln [] rfl rfl (fc41 m.co) (.cons (hv_same rfl) (.nil)) rfl ?_
          refine rs_not rfl rfl ?_
          cases h25 : !inS m.co
          · skip
            refine rs_pick rfl rfl rfl ?_
            refine rs_nil fun _ => ?_
            refine th_n ?_
            refine aw_cond rfl (fun h => by cases h) (fun _ => ?_)
            refine aw_skip ?_
            refine th_n ?_
            refine aw_seq ?_
            refine aw_seq ?_
            refine aw_reg ?_
            refine rs_fa_p rfl rfl ?_
            refine rs_ld_p rfl rfl rfl rfl rfl ?_
            refine rs_cmp rfl rfl rfl rfl (fun h29 => ?_) (fun h29 => ?_)
            · skip
              refine rs_mv rfl rfl ?_
              refine rs_fa_p rfl rfl ?_
              refine rs_ld_p rfl rfl rfl rfl rfl ?_
              refine rs_cmp rfl rfl rfl rfl (fun h33 => ?_) (fun h33 => ?_)
              · skip
                refine rs_pick rfl rfl rfl ?_
                refine rs_mv rfl rfl ?_
                refine rs_skip rfl ?_
                refine rs_skip rfl ?_
                refine rs_skip rfl ?_
                refine rs_skip rfl ?_
                refine rs_skip rfl ?_
                refine rs_skip rfl ?_
                refine rs_skip rfl ?_
                refine rs_skip rfl ?_
                refine rs_skip rfl ?_
                refine rs_skip rfl ?_
                refine rs_skip rfl ?_
                refine rs_skip rfl ?_
                refine rs_skip rfl ?_
                refine rs_pick rfl rfl rfl ?_
                refine rs_nil fun _ => ?_
                refine th_n ?_
                refine aw_cond rfl (fun _ => ?_) (fun h => by cases h)
                refine aw_seq ?_
                refine aw_reg ?_
                refine rs_mv rfl rfl ?_
                refine rs_nil fun _ => ?_
                refine th_n ?_
                refine aw_ret ?_
                refine th_r ?_
                first
                  | (exfalso; omega)
                  | exact ret_pure rfl (congrArg iv (by
                      have hm1 : m.kind < 1 ∨ 3 < m.kind ∨ ¬ (m.kind < 1 ∨ 3 < m.kind) := by omega
                      unfold checkR
                      first
                        | rw [if_pos (by omega)]
                        | (rw [if_neg (by omega)]; simp_all [feedR, lastR]; done)
                        | (rw [if_neg (by omega)]; simp_all [feedR, lastR]; omega))) rfl (.inr rfl)
              · skip
                refine rs_pick rfl rfl rfl ?_
                refine rs_mv rfl rfl ?_
                refine rs_fa_p rfl rfl ?_
                refine rs_ld_p rfl rfl rfl rfl rfl ?_
                refine rs_cmp rfl rfl rfl rfl (fun h38 => ?_) (fun h38 => ?_)
                · skip
                  refine rs_mv rfl rfl ?_
                  refine rs_fa_p rfl rfl ?_
                  refine rs_ld_p rfl rfl rfl rfl rfl ?_
                  refine rs_cmp rfl rfl rfl rfl (fun h42 => ?_) (fun h42 => ?_)
                  · skip
                    refine rs_mv rfl rfl ?_
                    refine rs_skip rfl ?_
                    refine rs_skip rfl ?_
                    refine rs_skip rfl ?_
                    refine rs_pick rfl rfl rfl ?_
                    refine rs_pick rfl rfl rfl ?_
                    refine rs_pick rfl rfl rfl ?_
                    refine rs_nil fun _ => ?_
                    refine th_n ?_
                    refine aw_cond rfl (fun _ => ?_) (fun h => by cases h)
                    refine aw_seq ?_
                    refine aw_reg ?_
                    refine rs_mv rfl rfl ?_
                    refine rs_nil fun _ => ?_
                    refine th_n ?_
                    refine aw_ret ?_
                    refine th_r ?_
                    (exfalso; omega)
                  · skip
                    refine rs_mv rfl rfl ?_
                    refine rs_fa_p rfl rfl ?_
                    refine rs_ld_p rfl rfl rfl rfl rfl ?_
                    refine rs_cmp rfl rfl rfl rfl (fun h46 => ?_) (fun h46 => ?_)
                    · skip
                      refine rs_pick rfl rfl rfl ?_
                      refine rs_pick rfl rfl rfl ?_
                      refine rs_pick rfl rfl rfl ?_
                      refine rs_nil fun _ => ?_
                      refine th_n ?_
                      refine aw_cond rfl (fun _ => ?_) (fun h => by cases h)
                      refine aw_seq ?_
                      refine aw_reg ?_
                      refine rs_mv rfl rfl ?_
                      refine rs_nil fun _ => ?_
                      refine th_n ?_
                      refine aw_ret ?_
                      refine th_r ?_
                      (exfalso; omega)
                    · skip
                      refine rs_pick rfl rfl rfl ?_
                      refine rs_pick rfl rfl rfl ?_
                      refine rs_pick rfl rfl rfl ?_
                      refine rs_nil fun _ => ?_
                      refine th_n ?_
                      refine aw_cond rfl (fun h => by cases h) (fun _ => ?_)
                      refine aw_skip ?_
                      refine th_n ?_
                      refine aw_seq ?_
                      refine aw_seq ?_
                      refine aw_reg ?_
                      refine rs_fa_p rfl rfl ?_
                      refine rs_ld_pa rfl rfl rfl rfl (Nat.le_of_ble_eq_true rfl) rfl ?_
                      refine rs_fa_p rfl rfl ?_
                      refine rs_ld_pa rfl rfl rfl rfl (Nat.le_of_ble_eq_true rfl) rfl ?_
                      refine rs_aeqv rfl rfl rfl ?_
                      cases h54 : (false != decide (m.fr = m.to))
                      · skip
                        refine rs_mv rfl rfl ?_
                        refine rs_fa_p rfl rfl ?_
                        refine rs_ld_p rfl rfl rfl rfl rfl ?_
                        refine rs_cmp rfl rfl rfl rfl (fun h58 => ?_) (fun h58 => ?_)
                        · skip
                          refine rs_mv rfl rfl ?_
                          refine rs_fa_p rfl rfl ?_
                          refine rs_ld_pa rfl rfl rfl rfl (Nat.le_of_ble_eq_true rfl) rfl ?_
                          refine rs_build rfl rfl ?_
                          refine rs_aeqv (v := ⟨0, 0, 0⟩) rfl rfl rfl ?_
                          cases h63 : (true != decide (m.co = ⟨0, 0, 0⟩))
                          · skip
                            refine rs_pick rfl rfl rfl ?_
                            refine rs_pick rfl rfl rfl ?_
                            refine rs_mv rfl rfl ?_
                            refine rs_fa_p rfl rfl ?_
                            refine rs_ld_p rfl rfl rfl rfl rfl ?_
                            refine rs_cmp rfl rfl rfl rfl (fun h69 => ?_) (fun h69 => ?_)
                            · skip
                              refine rs_mv rfl rfl ?_
                              refine rs_ld_pa rfl rfl rfl rfl (Nat.le_of_ble_eq_true rfl) rfl ?_
                              refine rs_calln [] rfl rfl (fc42 m (inM_of h15 h19 h25)) (.cons (hv_same rfl) (.nil)) rfl ?_
                              refine rs_not rfl rfl ?_
                              cases h73 : !quarterS m
                              · skip
                                refine rs_pick rfl rfl rfl ?_
                                refine rs_pick rfl rfl rfl ?_
                                refine rs_nil fun _ => ?_
                                refine th_n ?_
                                refine aw_cond rfl (fun h => by cases h) (fun _ => ?_)
                                refine aw_skip ?_
                                refine th_n ?_
                                refine aw_seq ?_
                                refine aw_reg ?_
                                refine rs_mv rfl rfl ?_
                                refine rs_nil fun _ => ?_
                                refine th_n ?_
                                refine aw_ret ?_
                                (exfalso; omega)
                              · skip
                                refine rs_pick rfl rfl rfl ?_
                                refine rs_pick rfl rfl rfl ?_
                                refine rs_nil fun _ => ?_
                                refine th_n ?_
                                refine aw_cond rfl (fun _ => ?_) (fun h => by cases h)
                                refine aw_seq ?_
                                refine aw_reg ?_
                                refine rs_mv rfl rfl ?_
                                refine rs_nil fun _ => ?_
                                refine th_n ?_
                                refine aw_ret ?_
                                refine th_r ?_
                                (exfalso; omega)
                            · skip
                              refine rs_mv rfl rfl ?_
                              refine rs_skip rfl ?_
                              refine rs_skip rfl ?_
                              refine rs_skip rfl ?_
                              refine rs_pick rfl rfl rfl ?_
                              refine rs_pick rfl rfl rfl ?_
                              refine rs_nil fun _ => ?_
                              refine th_n ?_
                              refine aw_cond rfl (fun h => by cases h) (fun _ => ?_)
                              refine aw_skip ?_
                              refine th_n ?_
                              refine aw_seq ?_
                              refine aw_reg ?_
                              refine rs_mv rfl rfl ?_
                              refine rs_nil fun _ => ?_
                              refine th_n ?_
                              refine aw_ret ?_
                              (exfalso; omega)
                          · skip
                            refine rs_pick rfl rfl rfl ?_
                            refine rs_pick rfl rfl rfl ?_
                            refine rs_mv rfl rfl ?_
                            refine rs_skip rfl ?_
                            refine rs_skip rfl ?_
                            refine rs_skip rfl ?_
                            refine rs_skip rfl ?_
                            refine rs_skip rfl ?_
                            refine rs_skip rfl ?_
                            refine rs_skip rfl ?_
                            refine rs_skip rfl ?_
                            refine rs_pick rfl rfl rfl ?_
                            refine rs_nil fun _ => ?_
                            refine th_n ?_
                            refine aw_cond rfl (fun _ => ?_) (fun h => by cases h)
                            refine aw_seq ?_
                            refine aw_reg ?_
                            refine rs_mv rfl rfl ?_
                            refine rs_nil fun _ => ?_
                            refine th_n ?_
                            refine aw_ret ?_
                            refine th_r ?_
                            (exfalso; omega)
                        · skip
                          refine rs_mv rfl rfl ?_
                          refine rs_skip rfl ?_
                          refine rs_skip rfl ?_
                          refine rs_skip rfl ?_
                          refine rs_skip rfl ?_
                          refine rs_pick rfl rfl rfl ?_
                          refine rs_pick rfl rfl rfl ?_
                          refine rs_mv rfl rfl ?_
                          refine rs_fa_p rfl rfl ?_
                          refine rs_ld_p rfl rfl rfl rfl rfl ?_
                          refine rs_cmp rfl rfl rfl rfl (fun h69 => ?_) (fun h69 => ?_)
                          · skip
                            refine rs_mv rfl rfl ?_
                            refine rs_ld_pa rfl rfl rfl rfl (Nat.le_of_ble_eq_true rfl) rfl ?_
                            refine rs_calln [] rfl rfl (fc42 m (inM_of h15 h19 h25)) (.cons (hv_same rfl) (.nil)) rfl ?_
                            refine rs_not rfl rfl ?_
                            cases h73 : !quarterS m
                            · skip
                              refine rs_pick rfl rfl rfl ?_
                              refine rs_pick rfl rfl rfl ?_
                              refine rs_nil fun _ => ?_
                              refine th_n ?_
                              refine aw_cond rfl (fun h => by cases h) (fun _ => ?_)
                              refine aw_skip ?_
                              refine th_n ?_
                              refine aw_seq ?_
                              refine aw_reg ?_
                              refine rs_mv rfl rfl ?_
                              refine rs_nil fun _ => ?_
                              refine th_n ?_
                              refine aw_ret ?_
                              (exfalso; omega)
                            · skip
                              refine rs_pick rfl rfl rfl ?_
                              refine rs_pick rfl rfl rfl ?_
                              refine rs_nil fun _ => ?_
                              refine th_n ?_
                              refine aw_cond rfl (fun _ => ?_) (fun h => by cases h)
                              refine aw_seq ?_
                              refine aw_reg ?_
                              refine rs_mv rfl rfl ?_
                              refine rs_nil fun _ => ?_
                              refine th_n ?_
                              refine aw_ret ?_
                              refine th_r ?_
                              (exfalso; omega)
                          · skip
                            refine rs_mv rfl rfl ?_
                            refine rs_skip rfl ?_
                            refine rs_skip rfl ?_
                            refine rs_skip rfl ?_
                            refine rs_pick rfl rfl rfl ?_
                            refine rs_pick rfl rfl rfl ?_
                            refine rs_nil fun _ => ?_
                            refine th_n ?_
                            refine aw_cond rfl (fun h => by cases h) (fun _ => ?_)
                            refine aw_skip ?_
                            refine th_n ?_
                            refine aw_seq ?_
                            refine aw_reg ?_
                            refine rs_mv rfl rfl ?_
                            refine rs_nil fun _ => ?_
                            refine th_n ?_
                            refine aw_ret ?_
                            (exfalso; omega)
                      · skip
                        refine rs_mv rfl rfl ?_
                        refine rs_skip rfl ?_
                        refine rs_skip rfl ?_
                        refine rs_skip rfl ?_
                        refine rs_skip rfl ?_
                        refine rs_skip rfl ?_
                        refine rs_skip rfl ?_
                        refine rs_skip rfl ?_
                        refine rs_skip rfl ?_
                        refine rs_skip rfl ?_
                        refine rs_pick rfl rfl rfl ?_
                        refine rs_mv rfl rfl ?_
                        refine rs_skip rfl ?_
                        refine rs_skip rfl ?_
                        refine rs_skip rfl ?_
                        refine rs_skip rfl ?_
                        refine rs_skip rfl ?_
                        refine rs_skip rfl ?_
                        refine rs_skip rfl ?_
                        refine rs_skip rfl ?_
                        refine rs_pick rfl rfl rfl ?_
                        refine rs_nil fun _ => ?_
                        refine th_n ?_
                        refine aw_cond rfl (fun _ => ?_) (fun h => by cases h)
                        refine aw_seq ?_
                        refine aw_reg ?_
                        refine rs_mv rfl rfl ?_
                        refine rs_nil fun _ => ?_
                        refine th_n ?_
                        refine aw_ret ?_
                        refine th_r ?_
                        (exfalso; omega)
                · skip
                  refine rs_mv rfl rfl ?_
                  refine rs_skip rfl ?_
                  refine rs_skip rfl ?_
                  refine rs_skip rfl ?_
                  refine rs_skip rfl ?_
                  refine rs_skip rfl ?_
                  refine rs_skip rfl ?_
                  refine rs_skip rfl ?_
                  refine rs_skip rfl ?_
                  refine rs_pick rfl rfl rfl ?_
                  refine rs_pick rfl rfl rfl ?_
                  refine rs_nil fun _ => ?_
                  refine th_n ?_
                  refine aw_cond rfl (fun h => by cases h) (fun _ => ?_)
                  refine aw_skip ?_
                  refine th_n ?_
                  refine aw_seq ?_
                  refine aw_seq ?_
                  refine aw_reg ?_
                  refine rs_fa_p rfl rfl ?_
                  refine rs_ld_pa rfl rfl rfl rfl (Nat.le_of_ble_eq_true rfl) rfl ?_
                  refine rs_fa_p rfl rfl ?_
                  refine rs_ld_pa rfl rfl rfl rfl (Nat.le_of_ble_eq_true rfl) rfl ?_
                  refine rs_aeqv rfl rfl rfl ?_
                  cases h54 : (false != decide (m.fr = m.to))
                  · skip
                    refine rs_mv rfl rfl ?_
                    refine rs_fa_p rfl rfl ?_
                    refine rs_ld_p rfl rfl rfl rfl rfl ?_
                    refine rs_cmp rfl rfl rfl rfl (fun h58 => ?_) (fun h58 => ?_)
                    · skip
                      refine rs_mv rfl rfl ?_
                      refine rs_fa_p rfl rfl ?_
                      refine rs_ld_pa rfl rfl rfl rfl (Nat.le_of_ble_eq_true rfl) rfl ?_
                      refine rs_build rfl rfl ?_
                      refine rs_aeqv (v := ⟨0, 0, 0⟩) rfl rfl rfl ?_
                      cases h63 : (true != decide (m.co = ⟨0, 0, 0⟩))
                      · skip
                        refine rs_pick rfl rfl rfl ?_
                        refine rs_pick rfl rfl rfl ?_
                        refine rs_mv rfl rfl ?_
                        refine rs_fa_p rfl rfl ?_
                        refine rs_ld_p rfl rfl rfl rfl rfl ?_
                        refine rs_cmp rfl rfl rfl rfl (fun h69 => ?_) (fun h69 => ?_)
                        · skip
                          refine rs_mv rfl rfl ?_
                          refine rs_ld_pa rfl rfl rfl rfl (Nat.le_of_ble_eq_true rfl) rfl ?_
                          refine rs_calln [] rfl rfl (fc42 m (inM_of h15 h19 h25)) (.cons (hv_same rfl) (.nil)) rfl ?_
                          refine rs_not rfl rfl ?_
                          cases h73 : !quarterS m
                          · skip
                            refine rs_pick rfl rfl rfl ?_
                            refine rs_pick rfl rfl rfl ?_
                            refine rs_nil fun _ => ?_
                            refine th_n ?_
                            refine aw_cond rfl (fun h => by cases h) (fun _ => ?_)
                            refine aw_skip ?_
                            refine th_n ?_
                            refine aw_seq ?_
                            refine aw_reg ?_
                            refine rs_mv rfl rfl ?_
                            refine rs_nil fun _ => ?_
                            refine th_n ?_
                            refine aw_ret ?_
                            (exfalso; omega)
                          · skip
                            refine rs_pick rfl rfl rfl ?_
                            refine rs_pick rfl rfl rfl ?_
                            refine rs_nil fun _ => ?_
                            refine th_n ?_
                            refine aw_cond rfl (fun _ => ?_) (fun h => by cases h)
                            refine aw_seq ?_
                            refine aw_reg ?_
                            refine rs_mv rfl rfl ?_
                            refine rs_nil fun _ => ?_
                            refine th_n ?_
                            refine aw_ret ?_
                            refine th_r ?_
                            (exfalso; omega)
                        · skip
                          refine rs_mv rfl rfl ?_
                          refine rs_skip rfl ?_
                          refine rs_skip rfl ?_
                          refine rs_skip rfl ?_
                          refine rs_pick rfl rfl rfl ?_
                          refine rs_pick rfl rfl rfl ?_
                          refine rs_nil fun _ => ?_
                          refine th_n ?_
                          refine aw_cond rfl (fun h => by cases h) (fun _ => ?_)
                          refine aw_skip ?_
                          refine th_n ?_
                          refine aw_seq ?_
                          refine aw_reg ?_
                          refine rs_mv rfl rfl ?_
                          refine rs_nil fun _ => ?_
                          refine th_n ?_
                          refine aw_ret ?_
                          first
                            | (exfalso; omega)
                            | exact ret_pure rfl (congrArg iv (by
                                have hm1 : m.kind < 1 ∨ 3 < m.kind ∨ ¬ (m.kind < 1 ∨ 3 < m.kind) := by omega
                                unfold checkR
                                first
                                  | rw [if_pos (by omega)]
                                  | (rw [if_neg (by omega)]; simp_all [feedR, lastR]; done)
                                  | (rw [if_neg (by omega)]; simp_all [feedR, lastR]; omega))) rfl (.inr rfl)
                      · skip
                        refine rs_pick rfl rfl rfl ?_
                        refine rs_pick rfl rfl rfl ?_
                        refine rs_mv rfl rfl ?_
                        refine rs_skip rfl ?_
                        refine rs_skip rfl ?_
                        refine rs_skip rfl ?_
                        refine rs_skip rfl ?_
                        refine rs_skip rfl ?_
                        refine rs_skip rfl ?_
                        refine rs_skip rfl ?_
                        refine rs_skip rfl ?_
                        refine rs_pick rfl rfl rfl ?_
                        refine rs_nil fun _ => ?_
                        refine th_n ?_
                        refine aw_cond rfl (fun _ => ?_) (fun h => by cases h)
                        refine aw_seq ?_
                        refine aw_reg ?_
                        refine rs_mv rfl rfl ?_
                        refine rs_nil fun _ => ?_
                        refine th_n ?_
                        refine aw_ret ?_
                        refine th_r ?_
                        first
                          | (exfalso; omega)
                          | exact ret_pure rfl (congrArg iv (by
                              have hm1 : m.kind < 1 ∨ 3 < m.kind ∨ ¬ (m.kind < 1 ∨ 3 < m.kind) := by omega
                              unfold checkR
                              first
                                | rw [if_pos (by omega)]
                                | (rw [if_neg (by omega)]; simp_all [feedR, lastR]; done)
                                | (rw [if_neg (by omega)]; simp_all [feedR, lastR]; omega))) rfl (.inr rfl)
                    · skip
                      refine rs_mv rfl rfl ?_
                      refine rs_skip rfl ?_
                      refine rs_skip rfl ?_
                      refine rs_skip rfl ?_
                      refine rs_skip rfl ?_
                      refine rs_pick rfl rfl rfl ?_
                      refine rs_pick rfl rfl rfl ?_
                      refine rs_mv rfl rfl ?_
                      refine rs_fa_p rfl rfl ?_
                      refine rs_ld_p rfl rfl rfl rfl rfl ?_
                      refine rs_cmp rfl rfl rfl rfl (fun h69 => ?_) (fun h69 => ?_)
                      · skip
                        refine rs_mv rfl rfl ?_
                        refine rs_ld_pa rfl rfl rfl rfl (Nat.le_of_ble_eq_true rfl) rfl ?_
                        refine rs_calln [] rfl rfl (fc42 m (inM_of h15 h19 h25)) (.cons (hv_same rfl) (.nil)) rfl ?_
                        refine rs_not rfl rfl ?_
                        cases h73 : !quarterS m
                        · skip
                          refine rs_pick rfl rfl rfl ?_
                          refine rs_pick rfl rfl rfl ?_
                          refine rs_nil fun _ => ?_
                          refine th_n ?_
                          refine aw_cond rfl (fun h => by cases h) (fun _ => ?_)
                          refine aw_skip ?_
                          refine th_n ?_
                          refine aw_seq ?_
                          refine aw_reg ?_
                          refine rs_mv rfl rfl ?_
                          refine rs_nil fun _ => ?_
                          refine th_n ?_
                          refine aw_ret ?_
                          (exfalso; omega)
                        · skip
                          refine rs_pick rfl rfl rfl ?_
                          refine rs_pick rfl rfl rfl ?_
                          refine rs_nil fun _ => ?_
                          refine th_n ?_
                          refine aw_cond rfl (fun _ => ?_) (fun h => by cases h)
                          refine aw_seq ?_
                          refine aw_reg ?_
                          refine rs_mv rfl rfl ?_
                          refine rs_nil fun _ => ?_
                          refine th_n ?_
                          refine aw_ret ?_
                          refine th_r ?_
                          (exfalso; omega)
                      · skip
                        refine rs_mv rfl rfl ?_
                        refine rs_skip rfl ?_
                        refine rs_skip rfl ?_
                        refine rs_skip rfl ?_
                        refine rs_pick rfl rfl rfl ?_
                        refine rs_pick rfl rfl rfl ?_
                        refine rs_nil fun _ => ?_
                        refine th_n ?_
                        refine aw_cond rfl (fun h => by cases h) (fun _ => ?_)
                        refine aw_skip ?_
                        refine th_n ?_
                        refine aw_seq ?_
                        refine aw_reg ?_
                        refine rs_mv rfl rfl ?_
                        refine rs_nil fun _ => ?_
                        refine th_n ?_
                        refine aw_ret ?_
                        (exfalso; omega)
                  · skip
                    refine rs_mv rfl rfl ?_
                    refine rs_skip rfl ?_
                    refine rs_skip rfl ?_
                    refine rs_skip rfl ?_
                    refine rs_skip rfl ?_
                    refine rs_skip rfl ?_
                    refine rs_skip rfl ?_
                    refine rs_skip rfl ?_
                    refine rs_skip rfl ?_
                    refine rs_skip rfl ?_
                    refine rs_pick rfl rfl rfl ?_
                    refine rs_mv rfl rfl ?_
                    refine rs_skip rfl ?_
                    refine rs_skip rfl ?_
                    refine rs_skip rfl ?_
                    refine rs_skip rfl ?_
                    refine rs_skip rfl ?_
                    refine rs_skip rfl ?_
                    refine rs_skip rfl ?_
                    refine rs_skip rfl ?_
                    refine rs_pick rfl rfl rfl ?_
                    refine rs_nil fun _ => ?_
                    refine th_n ?_
                    refine aw_cond rfl (fun _ => ?_) (fun h => by cases h)
                    refine aw_seq ?_
                    refine aw_reg ?_
                    refine rs_mv rfl rfl ?_
                    refine rs_nil fun _ => ?_
                    refine th_n ?_
                    refine aw_ret ?_
                    refine th_r ?_
                    first
                      | (exfalso; omega)
                      | exact ret_pure rfl (congrArg iv (by
                          have hm1 : m.kind < 1 ∨ 3 < m.kind ∨ ¬ (m.kind < 1 ∨ 3 < m.kind) := by omega
                          unfold checkR
                          first
                            | rw [if_pos (by omega)]
                            | (rw [if_neg (by omega)]; simp_all [feedR, lastR]; done)
                            | (rw [if_neg (by omega)]; simp_all [feedR, lastR]; omega))) rfl (.inr rfl)
            · skip
              refine rs_mv rfl rfl ?_
              refine rs_skip rfl ?_
              refine rs_skip rfl ?_
              refine rs_skip rfl ?_
              refine rs_pick rfl rfl rfl ?_
              refine rs_mv rfl rfl ?_
              refine rs_fa_p rfl rfl ?_
              refine rs_ld_p rfl rfl rfl rfl rfl ?_
              refine rs_cmp rfl rfl rfl rfl (fun h38 => ?_) (fun h38 => ?_)
              · skip
                refine rs_mv rfl rfl ?_
                refine rs_fa_p rfl rfl ?_
                refine rs_ld_p rfl rfl rfl rfl rfl ?_
                refine rs_cmp rfl rfl rfl rfl (fun h42 => ?_) (fun h42 => ?_)
                · skip
                  refine rs_mv rfl rfl ?_
                  refine rs_skip rfl ?_
                  refine rs_skip rfl ?_
                  refine rs_skip rfl ?_
                  refine rs_pick rfl rfl rfl ?_
                  refine rs_pick rfl rfl rfl ?_
                  refine rs_pick rfl rfl rfl ?_
                  refine rs_nil fun _ => ?_
                  refine th_n ?_
                  refine aw_cond rfl (fun _ => ?_) (fun h => by cases h)
                  refine aw_seq ?_
                  refine aw_reg ?_
                  refine rs_mv rfl rfl ?_
                  refine rs_nil fun _ => ?_
                  refine th_n ?_
                  refine aw_ret ?_
                  refine th_r ?_
                  first
                    | (exfalso; omega)
                    | exact ret_pure rfl (congrArg iv (by
                        have hm1 : m.kind < 1 ∨ 3 < m.kind ∨ ¬ (m.kind < 1 ∨ 3 < m.kind) := by omega
                        unfold checkR
                        first
                          | rw [if_pos (by omega)]
                          | (rw [if_neg (by omega)]; simp_all [feedR, lastR]; done)
                          | (rw [if_neg (by omega)]; simp_all [feedR, lastR]; omega))) rfl (.inr rfl)
                · skip
                  refine rs_mv rfl rfl ?_
                  refine rs_fa_p rfl rfl ?_
                  refine rs_ld_p rfl rfl rfl rfl rfl ?_
                  refine rs_cmp rfl rfl rfl rfl (fun h46 => ?_) (fun h46 => ?_)
                  · skip
                    refine rs_pick rfl rfl rfl ?_
                    refine rs_pick rfl rfl rfl ?_
                    refine rs_pick rfl rfl rfl ?_
                    refine rs_nil fun _ => ?_
                    refine th_n ?_
                    refine aw_cond rfl (fun _ => ?_) (fun h => by cases h)
                    refine aw_seq ?_
                    refine aw_reg ?_
                    refine rs_mv rfl rfl ?_
                    refine rs_nil fun _ => ?_
                    refine th_n ?_
                    refine aw_ret ?_
                    refine th_r ?_
                    first
                      | (exfalso; omega)
                      | exact ret_pure rfl (congrArg iv (by
                          have hm1 : m.kind < 1 ∨ 3 < m.kind ∨ ¬ (m.kind < 1 ∨ 3 < m.kind) := by omega
                          unfold checkR
                          first
                            | rw [if_pos (by omega)]
                            | (rw [if_neg (by omega)]; simp_all [feedR, lastR]; done)
                            | (rw [if_neg (by omega)]; simp_all [feedR, lastR]; omega))) rfl (.inr rfl)
                  · skip
                    refine rs_pick rfl rfl rfl ?_
                    refine rs_pick rfl rfl rfl ?_
                    refine rs_pick rfl rfl rfl ?_
                    refine rs_nil fun _ => ?_
                    refine th_n ?_
                    refine aw_cond rfl (fun h => by cases h) (fun _ => ?_)
                    refine aw_skip ?_
                    refine th_n ?_
                    refine aw_seq ?_
                    refine aw_seq ?_
                    refine aw_reg ?_
                    refine rs_fa_p rfl rfl ?_
                    refine rs_ld_pa rfl rfl rfl rfl (Nat.le_of_ble_eq_true rfl) rfl ?_
                    refine rs_fa_p rfl rfl ?_
                    refine rs_ld_pa rfl rfl rfl rfl (Nat.le_of_ble_eq_true rfl) rfl ?_
                    refine rs_aeqv rfl rfl rfl ?_
                    cases h54 : (false != decide (m.fr = m.to))
                    · skip
                      refine rs_mv rfl rfl ?_
                      refine rs_fa_p rfl rfl ?_
                      refine rs_ld_p rfl rfl rfl rfl rfl ?_
                      refine rs_cmp rfl rfl rfl rfl (fun h58 => ?_) (fun h58 => ?_)
                      · skip
                        refine rs_mv rfl rfl ?_
                        refine rs_fa_p rfl rfl ?_
                        refine rs_ld_pa rfl rfl rfl rfl (Nat.le_of_ble_eq_true rfl) rfl ?_
                        refine rs_build rfl rfl ?_
                        refine rs_aeqv (v := ⟨0, 0, 0⟩) rfl rfl rfl ?_
                        cases h63 : (true != decide (m.co = ⟨0, 0, 0⟩))
                        · skip
                          refine rs_pick rfl rfl rfl ?_
                          refine rs_pick rfl rfl rfl ?_
                          refine rs_mv rfl rfl ?_
                          refine rs_fa_p rfl rfl ?_
                          refine rs_ld_p rfl rfl rfl rfl rfl ?_
                          refine rs_cmp rfl rfl rfl rfl (fun h69 => ?_) (fun h69 => ?_)
                          · skip
                            refine rs_mv rfl rfl ?_
                            refine rs_ld_pa rfl rfl rfl rfl (Nat.le_of_ble_eq_true rfl) rfl ?_
                            refine rs_calln [] rfl rfl (fc42 m (inM_of h15 h19 h25)) (.cons (hv_same rfl) (.nil)) rfl ?_
                            refine rs_not rfl rfl ?_
                            cases h73 : !quarterS m
                            · skip
                              refine rs_pick rfl rfl rfl ?_
                              refine rs_pick rfl rfl rfl ?_
                              refine rs_nil fun _ => ?_
                              refine th_n ?_
                              refine aw_cond rfl (fun h => by cases h) (fun _ => ?_)
                              refine aw_skip ?_
                              refine th_n ?_
                              refine aw_seq ?_
                              refine aw_reg ?_
                              refine rs_mv rfl rfl ?_
                              refine rs_nil fun _ => ?_
                              refine th_n ?_
                              refine aw_ret ?_
                              (exfalso; omega)
                            · skip
                              refine rs_pick rfl rfl rfl ?_
                              refine rs_pick rfl rfl rfl ?_
                              refine rs_nil fun _ => ?_
                              refine th_n ?_
                              refine aw_cond rfl (fun _ => ?_) (fun h => by cases h)
                              refine aw_seq ?_
                              refine aw_reg ?_
                              refine rs_mv rfl rfl ?_
                              refine rs_nil fun _ => ?_
                              refine th_n ?_
                              refine aw_ret ?_
                              refine th_r ?_
                              (exfalso; omega)
                          · skip
                            refine rs_mv rfl rfl ?_
                            refine rs_skip rfl ?_
                            refine rs_skip rfl ?_
                            refine rs_skip rfl ?_
                            refine rs_pick rfl rfl rfl ?_
                            refine rs_pick rfl rfl rfl ?_
                            refine rs_nil fun _ => ?_
                            refine th_n ?_
                            refine aw_cond rfl (fun h => by cases h) (fun _ => ?_)
                            refine aw_skip ?_
                            refine th_n ?_
                            refine aw_seq ?_
                            refine aw_reg ?_
                            refine rs_mv rfl rfl ?_
                            refine rs_nil fun _ => ?_
                            refine th_n ?_
                            refine aw_ret ?_
                            first
                              | (exfalso; omega)
                              | exact ret_pure rfl (congrArg iv (by
                                  have hm1 : m.kind < 1 ∨ 3 < m.kind ∨ ¬ (m.kind < 1 ∨ 3 < m.kind) := by omega
                                  unfold checkR
                                  first
                                    | rw [if_pos (by omega)]
                                    | (rw [if_neg (by omega)]; simp_all [feedR, lastR]; done)
                                    | (rw [if_neg (by omega)]; simp_all [feedR, lastR]; omega))) rfl (.inr rfl)
                        · skip
                          refine rs_pick rfl rfl rfl ?_
                          refine rs_pick rfl rfl rfl ?_
                          refine rs_mv rfl rfl ?_
                          refine rs_skip rfl ?_
                          refine rs_skip rfl ?_
                          refine rs_skip rfl ?_
                          refine rs_skip rfl ?_
                          refine rs_skip rfl ?_
                          refine rs_skip rfl ?_
                          refine rs_skip rfl ?_
                          refine rs_skip rfl ?_
                          refine rs_pick rfl rfl rfl ?_
                          refine rs_nil fun _ => ?_
                          refine th_n ?_
                          refine aw_cond rfl (fun _ => ?_) (fun h => by cases h)
                          refine aw_seq ?_
                          refine aw_reg ?_
                          refine rs_mv rfl rfl ?_
                          refine rs_nil fun _ => ?_
                          refine th_n ?_
                          refine aw_ret ?_
                          refine th_r ?_
                          first
                            | (exfalso; omega)
                            | exact ret_pure rfl (congrArg iv (by
                                have hm1 : m.kind < 1 ∨ 3 < m.kind ∨ ¬ (m.kind < 1 ∨ 3 < m.kind) := by omega
                                unfold checkR
                                first
                                  | rw [if_pos (by omega)]
                                  | (rw [if_neg (by omega)]; simp_all [feedR, lastR]; done)
                                  | (rw [if_neg (by omega)]; simp_all [feedR, lastR]; omega))) rfl (.inr rfl)
                      · skip
                        refine rs_mv rfl rfl ?_
                        refine rs_skip rfl ?_
                        refine rs_skip rfl ?_
                        refine rs_skip rfl ?_
                        refine rs_skip rfl ?_
                        refine rs_pick rfl rfl rfl ?_
                        refine rs_pick rfl rfl rfl ?_
                        refine rs_mv rfl rfl ?_
                        refine rs_fa_p rfl rfl ?_
                        refine rs_ld_p rfl rfl rfl rfl rfl ?_
                        refine rs_cmp rfl rfl rfl rfl (fun h69 => ?_) (fun h69 => ?_)
                        · skip
                          refine rs_mv rfl rfl ?_
                          refine rs_ld_pa rfl rfl rfl rfl (Nat.le_of_ble_eq_true rfl) rfl ?_
                          refine rs_calln [] rfl rfl (fc42 m (inM_of h15 h19 h25)) (.cons (hv_same rfl) (.nil)) rfl ?_
                          refine rs_not rfl rfl ?_
                          cases h73 : !quarterS m
                          · skip
                            refine rs_pick rfl rfl rfl ?_
                            refine rs_pick rfl rfl rfl ?_
                            refine rs_nil fun _ => ?_
                            refine th_n ?_
                            refine aw_cond rfl (fun h => by cases h) (fun _ => ?_)
                            refine aw_skip ?_
                            refine th_n ?_
                            refine aw_seq ?_
                            refine aw_reg ?_
                            refine rs_mv rfl rfl ?_
                            refine rs_nil fun _ => ?_
                            refine th_n ?_
                            refine aw_ret ?_
                            first
                              | (exfalso; omega)
                              | exact ret_pure rfl (congrArg iv (by
                                  have hm1 : m.kind < 1 ∨ 3 < m.kind ∨ ¬ (m.kind < 1 ∨ 3 < m.kind) := by omega
                                  unfold checkR
                                  first
                                    | rw [if_pos (by omega)]
                                    | (rw [if_neg (by omega)]; simp_all [feedR, lastR]; done)
                                    | (rw [if_neg (by omega)]; simp_all [feedR, lastR]; omega))) rfl (.inr rfl)
                          · skip
                            refine rs_pick rfl rfl rfl ?_
                            refine rs_pick rfl rfl rfl ?_
                            refine rs_nil fun _ => ?_
                            refine th_n ?_
                            refine aw_cond rfl (fun _ => ?_) (fun h => by cases h)
                            refine aw_seq ?_
                            refine aw_reg ?_
                            refine rs_mv rfl rfl ?_
                            refine rs_nil fun _ => ?_
                            refine th_n ?_
                            refine aw_ret ?_
                            refine th_r ?_
                            first
                              | (exfalso; omega)
                              | exact ret_pure rfl (congrArg iv (by
                                  have hm1 : m.kind < 1 ∨ 3 < m.kind ∨ ¬ (m.kind < 1 ∨ 3 < m.kind) := by omega
                                  unfold checkR
                                  first
                                    | rw [if_pos (by omega)]
                                    | (rw [if_neg (by omega)]; simp_all [feedR, lastR]; done)
                                    | (rw [if_neg (by omega)]; simp_all [feedR, lastR]; omega))) rfl (.inr rfl)
                        · skip
                          refine rs_mv rfl rfl ?_
                          refine rs_skip rfl ?_
                          refine rs_skip rfl ?_
                          refine rs_skip rfl ?_
                          refine rs_pick rfl rfl rfl ?_
                          refine rs_pick rfl rfl rfl ?_
                          refine rs_nil fun _ => ?_
                          refine th_n ?_
                          refine aw_cond rfl (fun h => by cases h) (fun _ => ?_)
                          refine aw_skip ?_
                          refine th_n ?_
                          refine aw_seq ?_
                          refine aw_reg ?_
                          refine rs_mv rfl rfl ?_
                          refine rs_nil fun _ => ?_
                          refine th_n ?_
                          refine aw_ret ?_
                          (exfalso; omega)
                    · skip
                      refine rs_mv rfl rfl ?_
                      refine rs_skip rfl ?_
                      refine rs_skip rfl ?_
                      refine rs_skip rfl ?_
                      refine rs_skip rfl ?_
                      refine rs_skip rfl ?_
                      refine rs_skip rfl ?_
                      refine rs_skip rfl ?_
                      refine rs_skip rfl ?_
                      refine rs_skip rfl ?_
                      refine rs_pick rfl rfl rfl ?_
                      refine rs_mv rfl rfl ?_
                      refine rs_skip rfl ?_
                      refine rs_skip rfl ?_
                      refine rs_skip rfl ?_
                      refine rs_skip rfl ?_
                      refine rs_skip rfl ?_
                      refine rs_skip rfl ?_
                      refine rs_skip rfl ?_
                      refine rs_skip rfl ?_
                      refine rs_pick rfl rfl rfl ?_
                      refine rs_nil fun _ => ?_
                      refine th_n ?_
                      refine aw_cond rfl (fun _ => ?_) (fun h => by cases h)
                      refine aw_seq ?_
                      refine aw_reg ?_
                      refine rs_mv rfl rfl ?_
                      refine rs_nil fun _ => ?_
                      refine th_n ?_
                      refine aw_ret ?_
                      refine th_r ?_
                      first
                        | (exfalso; omega)
                        | exact ret_pure rfl (congrArg iv (by
                            have hm1 : m.kind < 1 ∨ 3 < m.kind ∨ ¬ (m.kind < 1 ∨ 3 < m.kind) := by omega
                            unfold checkR
                            first
                              | rw [if_pos (by omega)]
                              | (rw [if_neg (by omega)]; simp_all [feedR, lastR]; done)
                              | (rw [if_neg (by omega)]; simp_all [feedR, lastR]; omega))) rfl (.inr rfl)
              · skip
                refine rs_mv rfl rfl ?_
                refine rs_skip rfl ?_
                refine rs_skip rfl ?_
                refine rs_skip rfl ?_
                refine rs_skip rfl ?_
                refine rs_skip rfl ?_
                refine rs_skip rfl ?_
                refine rs_skip rfl ?_
                refine rs_skip rfl ?_
                refine rs_pick rfl rfl rfl ?_
                refine rs_pick rfl rfl rfl ?_
                refine rs_nil fun _ => ?_
                refine th_n ?_
                refine aw_cond rfl (fun h => by cases h) (fun _ => ?_)
                refine aw_skip ?_
                refine th_n ?_
                refine aw_seq ?_
                refine aw_seq ?_
                refine aw_reg ?_
                refine rs_fa_p rfl rfl ?_
                refine rs_ld_pa rfl rfl rfl rfl (Nat.le_of_ble_eq_true rfl) rfl ?_
                refine rs_fa_p rfl rfl ?_
                refine rs_ld_pa rfl rfl rfl rfl (Nat.le_of_ble_eq_true rfl) rfl ?_
                refine rs_aeqv rfl rfl rfl ?_
                cases h54 : (false != decide (m.fr = m.to))
                · skip
                  refine rs_mv rfl rfl ?_
                  refine rs_fa_p rfl rfl ?_
                  refine rs_ld_p rfl rfl rfl rfl rfl ?_
                  refine rs_cmp rfl rfl rfl rfl (fun h58 => ?_) (fun h58 => ?_)
                  · skip
                    refine rs_mv rfl rfl ?_
                    refine rs_fa_p rfl rfl ?_
                    refine rs_ld_pa rfl rfl rfl rfl (Nat.le_of_ble_eq_true rfl) rfl ?_
                    refine rs_build rfl rfl ?_
                    refine rs_aeqv (v := ⟨0, 0, 0⟩) rfl rfl rfl ?_
                    cases h63 : (true != decide (m.co = ⟨0, 0, 0⟩))
                    · skip
                      refine rs_pick rfl rfl rfl ?_
                      refine rs_pick rfl rfl rfl ?_
                      refine rs_mv rfl rfl ?_
                      refine rs_fa_p rfl rfl ?_
                      refine rs_ld_p rfl rfl rfl rfl rfl ?_
                      refine rs_cmp rfl rfl rfl rfl (fun h69 => ?_) (fun h69 => ?_)
                      · skip
                        refine rs_mv rfl rfl ?_
                        refine rs_ld_pa rfl rfl rfl rfl (Nat.le_of_ble_eq_true rfl) rfl ?_
                        refine rs_calln [] rfl rfl (fc42 m (inM_of h15 h19 h25)) (.cons (hv_same rfl) (.nil)) rfl ?_
                        refine rs_not rfl rfl ?_
                        cases h73 : !quarterS m
                        · skip
                          refine rs_pick rfl rfl rfl ?_
                          refine rs_pick rfl rfl rfl ?_
                          refine rs_nil fun _ => ?_
                          refine th_n ?_
                          refine aw_cond rfl (fun h => by cases h) (fun _ => ?_)
                          refine aw_skip ?_
                          refine th_n ?_
                          refine aw_seq ?_
                          refine aw_reg ?_
                          refine rs_mv rfl rfl ?_
                          refine rs_nil fun _ => ?_
                          refine th_n ?_
                          refine aw_ret ?_
                          (exfalso; omega)
                        · skip
                          refine rs_pick rfl rfl rfl ?_
                          refine rs_pick rfl rfl rfl ?_
                          refine rs_nil fun _ => ?_
                          refine th_n ?_
                          refine aw_cond rfl (fun _ => ?_) (fun h => by cases h)
                          refine aw_seq ?_
                          refine aw_reg ?_
                          refine rs_mv rfl rfl ?_
                          refine rs_nil fun _ => ?_
                          refine th_n ?_
                          refine aw_ret ?_
                          refine th_r ?_
                          (exfalso; omega)
                      · skip
                        refine rs_mv rfl rfl ?_
                        refine rs_skip rfl ?_
                        refine rs_skip rfl ?_
                        refine rs_skip rfl ?_
                        refine rs_pick rfl rfl rfl ?_
                        refine rs_pick rfl rfl rfl ?_
                        refine rs_nil fun _ => ?_
                        refine th_n ?_
                        refine aw_cond rfl (fun h => by cases h) (fun _ => ?_)
                        refine aw_skip ?_
                        refine th_n ?_
                        refine aw_seq ?_
                        refine aw_reg ?_
                        refine rs_mv rfl rfl ?_
                        refine rs_nil fun _ => ?_
                        refine th_n ?_
                        refine aw_ret ?_
                        (exfalso; omega)
                    · skip
                      refine rs_pick rfl rfl rfl ?_
                      refine rs_pick rfl rfl rfl ?_
                      refine rs_mv rfl rfl ?_
                      refine rs_skip rfl ?_
                      refine rs_skip rfl ?_
                      refine rs_skip rfl ?_
                      refine rs_skip rfl ?_
                      refine rs_skip rfl ?_
                      refine rs_skip rfl ?_
                      refine rs_skip rfl ?_
                      refine rs_skip rfl ?_
                      refine rs_pick rfl rfl rfl ?_
                      refine rs_nil fun _ => ?_
                      refine th_n ?_
                      refine aw_cond rfl (fun _ => ?_) (fun h => by cases h)
                      refine aw_seq ?_
                      refine aw_reg ?_
                      refine rs_mv rfl rfl ?_
                      refine rs_nil fun _ => ?_
                      refine th_n ?_
                      refine aw_ret ?_
                      refine th_r ?_
                      (exfalso; omega)
                  · skip
                    refine rs_mv rfl rfl ?_
                    refine rs_skip rfl ?_
                    refine rs_skip rfl ?_
                    refine rs_skip rfl ?_
                    refine rs_skip rfl ?_
                    refine rs_pick rfl rfl rfl ?_
                    refine rs_pick rfl rfl rfl ?_
                    refine rs_mv rfl rfl ?_
                    refine rs_fa_p rfl rfl ?_
                    refine rs_ld_p rfl rfl rfl rfl rfl ?_
                    refine rs_cmp rfl rfl rfl rfl (fun h69 => ?_) (fun h69 => ?_)
                    · skip
                      refine rs_mv rfl rfl ?_
                      refine rs_ld_pa rfl rfl rfl rfl (Nat.le_of_ble_eq_true rfl) rfl ?_
                      refine rs_calln [] rfl rfl (fc42 m (inM_of h15 h19 h25)) (.cons (hv_same rfl) (.nil)) rfl ?_
                      refine rs_not rfl rfl ?_
                      cases h73 : !quarterS m
                      · skip
                        refine rs_pick rfl rfl rfl ?_
                        refine rs_pick rfl rfl rfl ?_
                        refine rs_nil fun _ => ?_
                        refine th_n ?_
                        refine aw_cond rfl (fun h => by cases h) (fun _ => ?_)
                        refine aw_skip ?_
                        refine th_n ?_
                        refine aw_seq ?_
                        refine aw_reg ?_
                        refine rs_mv rfl rfl ?_
                        refine rs_nil fun _ => ?_
                        refine th_n ?_
                        refine aw_ret ?_
                        (exfalso; omega)
                      · skip
                        refine rs_pick rfl rfl rfl ?_
                        refine rs_pick rfl rfl rfl ?_
                        refine rs_nil fun _ => ?_
                        refine th_n ?_
                        refine aw_cond rfl (fun _ => ?_) (fun h => by cases h)
                        refine aw_seq ?_
                        refine aw_reg ?_
                        refine rs_mv rfl rfl ?_
                        refine rs_nil fun _ => ?_
                        refine th_n ?_
                        refine aw_ret ?_
                        refine th_r ?_
                        (exfalso; omega)
                    · skip
                      refine rs_mv rfl rfl ?_
                      refine rs_skip rfl ?_
                      refine rs_skip rfl ?_
                      refine rs_skip rfl ?_
                      refine rs_pick rfl rfl rfl ?_
                      refine rs_pick rfl rfl rfl ?_
                      refine rs_nil fun _ => ?_
                      refine th_n ?_
                      refine aw_cond rfl (fun h => by cases h) (fun _ => ?_)
                      refine aw_skip ?_
                      refine th_n ?_
                      refine aw_seq ?_
                      refine aw_reg ?_
                      refine rs_mv rfl rfl ?_
                      refine rs_nil fun _ => ?_
                      refine th_n ?_
                      refine aw_ret ?_
                      (exfalso; omega)
                · skip
                  refine rs_mv rfl rfl ?_
                  refine rs_skip rfl ?_
                  refine rs_skip rfl ?_
                  refine rs_skip rfl ?_
                  refine rs_skip rfl ?_
                  refine rs_skip rfl ?_
                  refine rs_skip rfl ?_
                  refine rs_skip rfl ?_
                  refine rs_skip rfl ?_
                  refine rs_skip rfl ?_
                  refine rs_pick rfl rfl rfl ?_
                  refine rs_mv rfl rfl ?_
                  refine rs_skip rfl ?_
                  refine rs_skip rfl ?_
                  refine rs_skip rfl ?_
                  refine rs_skip rfl ?_
                  refine rs_skip rfl ?_
                  refine rs_skip rfl ?_
                  refine rs_skip rfl ?_
                  refine rs_skip rfl ?_
                  refine rs_pick rfl rfl rfl ?_
                  refine rs_nil fun _ => ?_
                  refine th_n ?_
                  refine aw_cond rfl (fun _ => ?_) (fun h => by cases h)
                  refine aw_seq ?_
                  refine aw_reg ?_
                  refine rs_mv rfl rfl ?_
                  refine rs_nil fun _ => ?_
                  refine th_n ?_
                  refine aw_ret ?_
                  refine th_r ?_
                  (exfalso; omega)
          · skip
            refine rs_pick rfl rfl rfl ?_
            refine rs_nil fun _ => ?_
            refine th_n ?_
            refine aw_cond rfl (fun _ => ?_) (fun h => by cases h)
            refine aw_seq ?_
            refine aw_reg ?_
            refine rs_mv rfl rfl ?_
            refine rs_nil fun _ => ?_
            refine th_n ?_
            refine aw_ret ?_
            refine th_r ?_
            first
              | (exfalso; omega)
              | exact ret_pure rfl (congrArg iv (by
                  have hm1 : m.kind < 1 ∨ 3 < m.kind ∨ ¬ (m.kind < 1 ∨ 3 < m.kind) := by omega
                  unfold checkR
                  first
                    | rw [if_pos (by omega)]
                    | (rw [if_neg (by omega)]; simp_all [feedR, lastR]; done)
                    | (rw [if_neg (by omega)]; simp_all [feedR, lastR]; omega))) rfl (.inr rfl)
        · skip
          refine rs_pick rfl rfl rfl ?_
          refine rs_mv rfl rfl ?_
          refine rs_skip rfl ?_
          refine rs_skip rfl ?_
          refine rs_skip rfl ?_
          refine rs_skip rfl ?_
          refine rs_pick rfl rfl rfl ?_
          refine rs_nil fun _ => ?_
          refine th_n ?_
          refine aw_cond rfl (fun _ => ?_) (fun h => by cases h)
          refine aw_seq ?_
          refine aw_reg ?_
          refine rs_mv rfl rfl ?_
          refine rs_nil fun _ => ?_
          refine th_n ?_
          refine aw_ret ?_
          refine th_r ?_
          first
            | (exfalso; omega)
            | exact ret_pure rfl (congrArg iv (by
                have hm1 : m.kind < 1 ∨ 3 < m.kind ∨ ¬ (m.kind < 1 ∨ 3 < m.kind) := by omega
                unfold checkR
                first
                  | rw [if_pos (by omega)]
                  | (rw [if_neg (by omega)]; simp_all [feedR, lastR]; done)
                  | (rw [if_neg (by omega)]; simp_all [feedR, lastR]; omega))) rfl (.inr rfl)
      · skip
        refine rs_skip rfl ?_
        refine rs_skip rfl ?_
        refine rs_skip rfl ?_
        refine rs_skip rfl ?_
        refine rs_pick rfl rfl rfl ?_
        refine rs_mv rfl rfl ?_
        refine rs_skip rfl ?_
        refine rs_skip rfl ?_
        refine rs_skip rfl ?_
        refine rs_skip rfl ?_
        refine rs_pick rfl rfl rfl ?_
        refine rs_nil fun _ => ?_
        refine th_n ?_
        refine aw_cond rfl (fun _ => ?_) (fun h => by cases h)
        refine aw_seq ?_
        refine aw_reg ?_
        refine rs_mv rfl rfl ?_
        refine rs_nil fun _ => ?_
        refine th_n ?_
        refine aw_ret ?_
        refine th_r ?_
        first
          | (exfalso; omega)
          | exact ret_pure rfl (congrArg iv (by
              have hm1 : m.kind < 1 ∨ 3 < m.kind ∨ ¬ (m.kind < 1 ∨ 3 < m.kind) := by omega
              unfold checkR
              first
                | rw [if_pos (by omega)]
                | (rw [if_neg (by omega)]; simp_all [feedR, lastR]; done)
                | (rw [if_neg (by omega)]; simp_all [feedR, lastR]; omega))) rfl (.inr rfl)

end Go.Proofs.Ytigfcmcdjfmieaa

/-! Plain law: the form of an arc, told in both ways. -/
namespace Go.Proofs.Ytigfcmcdjfmieaa
open Go.RowKit

theorem gS_eq (v : V3) : gS v = Nat.gcd (Nat.gcd v.x.natAbs v.y.natAbs) v.z.natAbs := by simp [gS, gL]
theorem gS_dvd (v : V3) : (gS v : Int) ∣ v.x ∧ (gS v : Int) ∣ v.y ∧ (gS v : Int) ∣ v.z := by
  rw [gS_eq]
  refine ⟨?_, ?_, ?_⟩ <;> rw [Int.ofNat_dvd_left]
  · exact Nat.dvd_trans (Nat.gcd_dvd_left _ _) (Nat.gcd_dvd_left _ _)
  · exact Nat.dvd_trans (Nat.gcd_dvd_left _ _) (Nat.gcd_dvd_right _ _)
  · exact Nat.gcd_dvd_right _ _
theorem prim_mul (v : V3) : v.x = gS v * (primV v).x ∧ v.y = gS v * (primV v).y ∧ v.z = gS v * (primV v).z := by
  obtain ⟨h1, h2, h3⟩ := gS_dvd v
  unfold primV
  split
  · rename_i h
    rw [h] at h1 h2 h3 ⊢
    simp only [Int.natCast_zero, Int.zero_mul]
    exact ⟨Int.zero_dvd.1 h1, Int.zero_dvd.1 h2, Int.zero_dvd.1 h3⟩
  · exact ⟨(Int.mul_tdiv_cancel' h1).symm, (Int.mul_tdiv_cancel' h2).symm, (Int.mul_tdiv_cancel' h3).symm⟩
theorem sq_nonneg (a : Int) : 0 ≤ a * a := by
  rcases Int.le_total 0 a with h | h
  · exact Int.mul_nonneg h h
  · rw [← Int.neg_mul_neg]; exact Int.mul_nonneg (by omega) (by omega)
theorem sq_le1 {a : Int} (h : a * a ≤ 1) : a = -1 ∨ a = 0 ∨ a = 1 := by
  have h1 : ¬ 2 ≤ a := fun h2 => by
    have := Int.mul_le_mul h2 h2 (by omega) (by omega)
    omega
  have h2 : ¬ a ≤ -2 := fun h2 => by
    have := Int.mul_le_mul (show 2 ≤ -a by omega) (show 2 ≤ -a by omega) (by omega) (by omega)
    rw [Int.neg_mul_neg] at this
    omega
  omega
/-- Unit vectors along an axis. -/
theorem unit_cases {p : V3} (h : dot p p = 1) : p = ⟨1, 0, 0⟩ ∨ p = ⟨-1, 0, 0⟩ ∨ p = ⟨0, 1, 0⟩ ∨ p = ⟨0, -1, 0⟩ ∨ p = ⟨0, 0, 1⟩ ∨ p = ⟨0, 0, -1⟩ := by
  obtain ⟨x, y, z⟩ := p
  unfold dot at h
  dsimp only at h
  have h1 := sq_nonneg x
  have h2 := sq_nonneg y
  have h3 := sq_nonneg z
  rcases sq_le1 (a := x) (by omega) with rfl | rfl | rfl <;> rcases sq_le1 (a := y) (by omega) with rfl | rfl | rfl <;> rcases sq_le1 (a := z) (by omega) with rfl | rfl | rfl <;> simp at h ⊢
theorem tdiv_abs {a : Int} (h : a ≠ 0) : a.tdiv a.natAbs = 1 ∨ a.tdiv a.natAbs = -1 := by
  rcases Int.lt_trichotomy a 0 with h1 | h1 | h1
  · right
    have : ((a.natAbs : Nat) : Int) = -a := by omega
    rw [this, Int.tdiv_neg, Int.tdiv_self h]
  · exact absurd h1 h
  · left
    have : ((a.natAbs : Nat) : Int) = a := by omega
    rw [this, Int.tdiv_self h]
/-- A vector is parallel to an axis: told by its length, and by its primitive vector. -/
theorem unit_len (v : V3) : dot (primV v) (primV v) = 1 ↔ 1 ≤ lenS v := by
  constructor
  · intro h
    obtain ⟨e1, e2, e3⟩ := prim_mul v
    have hg : gS v ≠ 0 := fun e => by
      unfold primV at h
      rw [if_pos e] at h
      simp [dot] at h
    have hg1 : 1 ≤ (gS v : Int) := by omega
    generalize (gS v : Int) = g at e1 e2 e3 hg1
    rcases unit_cases h with e | e | e | e | e | e <;> rw [e] at e1 e2 e3 <;> simp only [Int.mul_one, Int.mul_zero, Int.mul_neg] at e1 e2 e3 <;> unfold lenS <;> dsimp only <;> rw [e1, e2, e3, if_pos (by omega)] <;> omega
  · intro h
    have h0 : (v.x ≠ 0 ∧ v.y = 0 ∧ v.z = 0) ∨ (v.x = 0 ∧ v.y ≠ 0 ∧ v.z = 0) ∨ (v.x = 0 ∧ v.y = 0 ∧ v.z ≠ 0) := by
      unfold lenS at h
      dsimp only at h
      split at h <;> omega
    have hg := gS_eq v
    rcases h0 with ⟨h1, h2, h3⟩ | ⟨h1, h2, h3⟩ | ⟨h1, h2, h3⟩
    · have e : gS v = v.x.natAbs := by rw [hg, h2, h3]; simp
      unfold primV
      rw [if_neg (by omega), e, h2, h3]
      rcases tdiv_abs h1 with q | q <;> simp [dot, q]
    · have e : gS v = v.y.natAbs := by rw [hg, h1, h3]; simp
      unfold primV
      rw [if_neg (by omega), e, h1, h3]
      rcases tdiv_abs h2 with q | q <;> simp [dot, q]
    · have e : gS v = v.z.natAbs := by rw [hg, h1, h2]; simp
      unfold primV
      rw [if_neg (by omega), e, h1, h2]
      rcases tdiv_abs h3 with q | q <;> simp [dot, q]
theorem len_g {v : V3} (h : 1 ≤ lenS v) : (gS v : Int) = lenS v := by
  have h0 : (v.x ≠ 0 ∧ v.y = 0 ∧ v.z = 0) ∨ (v.x = 0 ∧ v.y ≠ 0 ∧ v.z = 0) ∨ (v.x = 0 ∧ v.y = 0 ∧ v.z ≠ 0) := by
    unfold lenS at h
    dsimp only at h
    split at h <;> omega
  have hg := gS_eq v
  unfold lenS at h ⊢
  dsimp only at h ⊢
  rcases h0 with ⟨h1, h2, h3⟩ | ⟨h1, h2, h3⟩ | ⟨h1, h2, h3⟩
  · have e : gS v = v.x.natAbs := by rw [hg, h2, h3]; simp
    rw [e]; split <;> omega
  · have e : gS v = v.y.natAbs := by rw [hg, h1, h3]; simp
    rw [e]; split <;> omega
  · have e : gS v = v.z.natAbs := by rw [hg, h1, h2]; simp
    rw [e]; split <;> omega
theorem lenS_neg (a b : V3) : lenS (sub a b) = lenS (sub b a) := by
  unfold lenS sub
  dsimp only
  have h1 : max (a.x - b.x) (-(a.x - b.x)) = max (b.x - a.x) (-(b.x - a.x)) := by omega
  have h2 : max (a.y - b.y) (-(a.y - b.y)) = max (b.y - a.y) (-(b.y - a.y)) := by omega
  have h3 : max (a.z - b.z) (-(a.z - b.z)) = max (b.z - a.z) (-(b.z - a.z)) := by omega
  rw [h1, h2, h3]
theorem dot_neg2 (a b c : V3) : dot (sub a c) (sub b c) = dot (sub c a) (sub c b) := by
  unfold dot sub
  dsimp only
  rw [← Int.neg_mul_neg (a.x - c.x), ← Int.neg_mul_neg (a.y - c.y), ← Int.neg_mul_neg (a.z - c.z)]
  simp only [Int.neg_sub]
theorem dot_comm (a b : V3) : dot a b = dot b a := by
  unfold dot
  rw [Int.mul_comm a.x, Int.mul_comm a.y, Int.mul_comm a.z]
theorem dot_prim (u v : V3) : dot u v = gS u * gS v * dot (primV u) (primV v) := by
  obtain ⟨a1, a2, a3⟩ := prim_mul u
  obtain ⟨b1, b2, b3⟩ := prim_mul v
  have key : ∀ g h p q : Int, g * p * (h * q) = g * h * (p * q) := fun g h p q => by rw [Int.mul_assoc, Int.mul_assoc, ← Int.mul_assoc p, Int.mul_comm p, Int.mul_assoc]
  have e : ∀ ux uy uz vx vy vz g h px py pz qx qy qz : Int, ux = g * px → uy = g * py → uz = g * pz → vx = h * qx → vy = h * qy → vz = h * qz → ux * vx + uy * vy + uz * vz = g * h * (px * qx + py * qy + pz * qz) := by
    intro ux uy uz vx vy vz g h px py pz qx qy qz e1 e2 e3 e4 e5 e6
    rw [e1, e2, e3, e4, e5, e6, Int.mul_add, Int.mul_add, key g h px qx, key g h py qy, key g h pz qz]
  exact e _ _ _ _ _ _ _ _ _ _ _ _ _ _ a1 a2 a3 b1 b2 b3
theorem prim_sub (u v : V3) : sub v u = ⟨-(sub u v).x, -(sub u v).y, -(sub u v).z⟩ := by
  unfold sub; simp only [Int.neg_sub]
/-- Both forms of an arc. -/
theorem fits_quarter (m : Mv) : fitsA m = quarterS m := by
  unfold fitsA quarterS
  have hu1 := unit_len (sA m)
  have hu2 := unit_len (sB m)
  have e1 : lenS (sub m.fr m.co) = lenS (sB m) := lenS_neg _ _
  have e2 : lenS (sub m.to m.co) = lenS (sA m) := lenS_neg _ _
  have e3 : dot (sub m.fr m.co) (sub m.to m.co) = dot (sA m) (sB m) := by rw [dot_neg2, dot_comm]; rfl
  rw [e1, e2, e3]
  apply Bool.eq_iff_iff.2
  simp only [Bool.and_eq_true, decide_eq_true_eq]
  rw [hu1, hu2]
  have hd := dot_prim (sA m) (sB m)
  constructor
  · rintro ⟨h1, h2, h3, h4⟩
    rw [len_g h1, len_g h2] at h3
    exact ⟨h2, h3.symm, by rw [hd, h4, Int.mul_zero]⟩
  · rintro ⟨h1, h2, h3⟩
    have h4 : 1 ≤ lenS (sA m) := by omega
    refine ⟨h4, h1, by rw [len_g h4, len_g h1]; exact h2.symm, ?_⟩
    rw [hd] at h3
    have g1 := len_g h4
    have g2 := len_g h1
    rcases Int.mul_eq_zero.1 h3 with h | h
    · rcases Int.mul_eq_zero.1 h with h | h <;> omega
    · exact h
theorem quarter_ne {m : Mv} (h : quarterS m = true) : m.fr ≠ m.to := fun e => by
  unfold quarterS at h
  simp only [Bool.and_eq_true, decide_eq_true_eq] at h
  obtain ⟨h1, _, h3⟩ := h
  rw [e] at h1 h3
  have hx : (sub m.to m.co).x ≠ 0 ∨ (sub m.to m.co).y ≠ 0 ∨ (sub m.to m.co).z ≠ 0 := by
    unfold lenS at h1
    dsimp only at h1
    split at h1 <;> omega
  have p1 := sq_nonneg (sub m.to m.co).x
  have p2 := sq_nonneg (sub m.to m.co).y
  have p3 := sq_nonneg (sub m.to m.co).z
  unfold dot at h3
  have z : ∀ a : Int, a * a = 0 → a = 0 := fun a h => (Int.mul_eq_zero.1 h).elim id id
  rcases hx with h | h | h
  · exact h (z _ (by omega))
  · exact h (z _ (by omega))
  · exact h (z _ (by omega))
theorem check_eq (m : Mv) : checkR m = checkS m := by
  unfold checkR checkS rangeB feedR lastR
  rw [fits_quarter]
  have hq := @quarter_ne m
  unfold fitsL
  by_cases h1 : m.kind = 1
  · simp only [h1]
    cases inS m.fr <;> cases inS m.to <;> cases inS m.co <;> by_cases hf : m.feed = 0 <;> simp [hf] <;> by_cases q1 : m.fr = m.to <;> by_cases q2 : m.co = ⟨0, 0, 0⟩ <;> simp [q1, q2] <;> omega
  · by_cases h2 : m.kind = 2
    · simp only [h2]
      cases inS m.fr <;> cases inS m.to <;> cases inS m.co <;> by_cases hf : m.feed < 1 <;> by_cases hg : 100 < m.feed <;> simp [hf, hg] <;> by_cases q1 : m.fr = m.to <;> by_cases q2 : m.co = ⟨0, 0, 0⟩ <;> simp [q1, q2]
    · by_cases h3 : m.kind = 3
      · simp only [h3]
        cases inS m.fr <;> cases inS m.to <;> cases inS m.co <;> by_cases hf : m.feed < 1 <;> by_cases hg : 100 < m.feed <;> simp [hf, hg]
        cases h4 : quarterS m
        · simp
        · simp [hq h4]
      · rw [if_pos (by omega), if_neg h1, if_neg h2, if_neg h3]
end Go.Proofs.Ytigfcmcdjfmieaa
