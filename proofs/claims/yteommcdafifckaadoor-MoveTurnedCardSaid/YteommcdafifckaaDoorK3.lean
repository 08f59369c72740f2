/-
  Parts of the proof: M0 M1 P0 M2 M3.
-/
import Derived.Test.YteommcdafifckaaDoorK2
import Derived.Test.YteommcdafifckaaDoorProg
set_option linter.unusedVariables false
set_option linter.unusedSimpArgs false

/-! Walks: M0. -/
namespace Go.Proofs.YteommcdafifckaaDoor
open Go.RowKit
set_option maxRecDepth 100000

theorem hmix : Tryd.prog.follows .mixedOrders = true := by kernel_rfl

section
variable {P : Program} {N : Nat} {Z : List Nat} {F : Fr} {H : Hp} {ml : List MOper} {K : List Fp → Fr → Hp → Prop} {d : Nat} {g : Option (Nat × Bool)} {pre : List Nat}
/-- A cell of a row of an own list. -/
theorem rs_ld_g {α : Type} {f : α → List AV} {xs : List α} {t a n o e z : Nat} {fl : Bool} {x : Arg} {v : AV} {y : α} (hg : gOK F g = true) (hx : aarg F x = some (.ptr a t o)) (ha : get H a = some (.cells e z (xs.map f) fl)) (hy : xs[t]? = some y) (hv : (f y)[o]? = some v)
    (h : RS P N ml ((d, v) :: F) H (fun fps => K (([a], []) :: fps))) : RS P N (⟨some d, .ld false n x, g, pre⟩ :: ml) F H K := rs_ld_p hg hx ha (el := f y) (by simp [hy]) hv h
theorem rs_ld_ga {α : Type} {f : α → List AV} {xs : List α} {t a n o e z : Nat} {fl : Bool} {x : Arg} {cs : List AV} {y : α} (hg : gOK F g = true) (hx : aarg F x = some (.ptr a t o)) (ha : get H a = some (.cells e z (xs.map f) fl)) (hy : xs[t]? = some y) (hn : o + n ≤ (f y).length) (hc : ((f y).drop o).take n = cs)
    (h : RS P N ml ((d, .agg cs) :: F) H (fun fps => K (([a], []) :: fps))) : RS P N (⟨some d, .ld true n x, g, pre⟩ :: ml) F H K := rs_ld_pa hg hx ha (el := f y) (by simp [hy]) hn hc h
/-- An element of a read-only list. -/
theorem rs_ix_g {α : Type} {f : α → List AV} {xs : List α} {z : Nat} {x i : Arg} {k : IntKind} {t : Int} {y : α} (hg : gOK F g = true) (hx : aarg F x = some (.rs z (xs.map f))) (hi : aarg F i = some (.int k t)) (h0 : 0 ≤ t) (hy : xs[t.toNat]? = some y)
    (h : RS P N ml ((d, .rp (f y)) :: F) H (fun fps => K (([], []) :: fps))) : RS P N (⟨some d, .ixsl z x i, g, pre⟩ :: ml) F H K :=
  rs_ix_r hg hx hi h0 (by have := (List.getElem?_eq_some_iff.1 hy).1; simp; omega) (by simp [hy]) h
/-- An own array. -/
theorem rs_ld_f {α : Type} {f : α → AV} {L : List α} {a o n e z k : Nat} {fl : Bool} {x : Arg} {y : α} (hg : gOK F g = true) (hx : aarg F x = some (.ptr a 0 o)) (ha : get H a = some (.cells e z [L.map f] fl)) (hk : o = k) (hy : L[k]? = some y)
    (h : RS P N ml ((d, f y) :: F) H (fun fps => K (([a], []) :: fps))) : RS P N (⟨some d, .ld false n x, g, pre⟩ :: ml) F H K :=
  rs_ld_p hg hx ha (el := L.map f) rfl (by rw [hk]; simp [hy]) h
end
theorem at_some {α : Type} {L : List α} {k : Nat} (h : k < L.length) : ∃ a, L[k]? = some a ∧ a ∈ L := ⟨L[k], List.getElem?_eq_getElem h, List.getElem_mem h⟩
theorem lt_of_at {α : Type} {L : List α} {k : Nat} {a : α} (h : L[k]? = some a) : k < L.length := (List.getElem?_eq_some_iff.1 h).1
theorem mem_of_at {α : Type} {L : List α} {k : Nat} {a : α} (h : L[k]? = some a) : a ∈ L := List.mem_of_getElem? h
theorem hv_slm {α : Type} {f : α → List AV} {xs : List α} {H Hs : Hp} {rd : List Nat} {i e z n : Nat} (hi : i ∈ rd) (hg : get H i = some (.cells e z (xs.map f) true)) (hn : xs.length = n) : HV H Hs rd false (.sl i 0 n) (.rs z (xs.map f)) :=
  hv_sl hi hg (by simp; omega) (by rw [List.drop_zero, List.take_of_length_le (by simp; omega)])
abbrev iv (n : Int) : AV := .int .i64 n
abbrev ints (xs : List Int) : AV := .rs 1 (xs.map ci)
abbrev cu8 (x : Int) : List AV := [.int .u8 x]

theorem tmod_range (n m : Int) (h : 1 ≤ m) : -m < n.tmod m ∧ n.tmod m < m := by
  have h1 := Int.tmod_lt_of_pos n (show (0 : Int) < m by omega)
  have h2 := Int.tmod_lt_of_pos (-n) (show (0 : Int) < m by omega)
  rw [Int.neg_tmod] at h2
  omega
theorem mod_eq (n m : Int) (h : 1 ≤ m) : (n.tmod m + m).tmod m = n % m := by
  have h1 := tmod_range n m h
  rw [Int.tmod_eq_emod_of_nonneg (by omega), Int.add_emod_right, Int.tmod_eq_emod]
  split
  · simp
  · rw [Int.sub_emod]; simp [Int.natAbs_of_nonneg (show 0 ≤ m by omega)]
def modS (n m : Int) : Int := if m < 1 then 0 else n % m
theorem modS_range (x n : Int) (h : 1 ≤ n) : 0 ≤ modS x n ∧ modS x n < n := by
  unfold modS
  rw [if_neg (by omega)]
  exact ⟨Int.emod_nonneg _ (by omega), Int.emod_lt_of_pos _ (by omega)⟩
/-- A draw of numbers: what comes next, and where it stands then. -/
def nextV (L : List Int) (k : Nat) (n : Int) : Int := match L[k]? with
  | some x => modS x n
  | none => 0
def nextA (L : List Int) (k : Nat) : Nat := if k < L.length then k + 1 else k
abbrev drawOb (e : Nat) (L : List Int) (k : Nat) : Ob := .cells e 2 [[ints L, .int .i64 (k : Int)]] true
theorem nextV_range (L : List Int) (k : Nat) (n : Int) (h : 1 ≤ n) : 0 ≤ nextV L k n ∧ nextV L k n < n := by
  unfold nextV
  split
  · exact modS_range _ n h
  · omega

/-- Vectors and moves. -/
structure V3 where
  (x y z : Int)
deriving DecidableEq
abbrev cV (v : V3) : List AV := [.int .i64 v.x, .int .i64 v.y, .int .i64 v.z]
abbrev aV (v : V3) : AV := .agg (cV v)
structure Mv where
  (kind : Int) (fr to co : V3) (feed : Int)
deriving DecidableEq
abbrev cM (m : Mv) : List AV := [iv m.kind, iv m.fr.x, iv m.fr.y, iv m.fr.z, iv m.to.x, iv m.to.y, iv m.to.z, iv m.co.x, iv m.co.y, iv m.co.z, iv m.feed]
abbrev aM (m : Mv) : AV := .agg (cM m)
theorem rs_aeqv {P : Program} {N : Nat} {F : Fr} {H : Hp} {ml : List MOper} {K : List Fp → Fr → Hp → Prop} {d : Nat} {g : Option (Nat × Bool)} {pre : List Nat} {neg : Bool} {x y : Arg} {u v : V3} (hg : gOK F g = true) (hx : aarg F x = some (aV u)) (hy : aarg F y = some (aV v))
    (h : RS P N ml ((d, .bool (neg != decide (u = v))) :: F) H (fun fps => K (([], []) :: fps))) : RS P N (⟨some d, .aeq neg 3 x y, g, pre⟩ :: ml) F H K :=
  rs_aeq [u.x, u.y, u.z] [v.x, v.y, v.z] hg hx hy rfl rfl rfl rfl (by congr 1; cases u; cases v; simp) h
abbrev W (n : Int) : Int := IntKind.i64.wrap n
theorem W_eq {n : Int} (h : -9223372036854775808 ≤ n ∧ n ≤ 9223372036854775807) : W n = n := wrap64_eq h
def addW (a b : V3) : V3 := ⟨W (a.x + b.x), W (a.y + b.y), W (a.z + b.z)⟩
def subW (a b : V3) : V3 := ⟨W (a.x - b.x), W (a.y - b.y), W (a.z - b.z)⟩
def dotW (a b : V3) : Int := W (W (W (a.x * b.x) + W (a.y * b.y)) + W (a.z * b.z))
def crossW (a b : V3) : V3 := ⟨W (W (a.y * b.z) - W (a.z * b.y)), W (W (a.z * b.x) - W (a.x * b.z)), W (W (a.x * b.y) - W (a.y * b.x))⟩
def plusW (a b : V3) (n : Int) : V3 := ⟨W (a.x + W (n * b.x)), W (a.y + W (n * b.y)), W (a.z + W (n * b.z))⟩
def add (a b : V3) : V3 := ⟨a.x + b.x, a.y + b.y, a.z + b.z⟩
def sub (a b : V3) : V3 := ⟨a.x - b.x, a.y - b.y, a.z - b.z⟩
def dot (a b : V3) : Int := a.x * b.x + a.y * b.y + a.z * b.z
def cross (a b : V3) : V3 := ⟨a.y * b.z - a.z * b.y, a.z * b.x - a.x * b.z, a.x * b.y - a.y * b.x⟩
def plus (a b : V3) (n : Int) : V3 := ⟨a.x + n * b.x, a.y + n * b.y, a.z + n * b.z⟩
structure Bd (n : Int) (v : V3) : Prop where
  x : -n ≤ v.x ∧ v.x ≤ n
  y : -n ≤ v.y ∧ v.y ≤ n
  z : -n ≤ v.z ∧ v.z ≤ n
theorem Bd.mono {n m : Int} {v : V3} (h : Bd n v) (hn : n ≤ m) : Bd m v := by
  have := h.x; have := h.y; have := h.z
  exact ⟨by omega, by omega, by omega⟩
theorem mulB {a b n m : Int} (ha : -n ≤ a ∧ a ≤ n) (hb : -m ≤ b ∧ b ≤ m) : -(n * m) ≤ a * b ∧ a * b ≤ n * m := by
  have h1 : a.natAbs ≤ n.toNat := by omega
  have h2 : b.natAbs ≤ m.toNat := by omega
  have h3 : (a * b).natAbs ≤ n.toNat * m.toNat := by rw [Int.natAbs_mul]; exact Nat.mul_le_mul h1 h2
  have h4 : ((n.toNat * m.toNat : Nat) : Int) = n * m := by rw [Int.natCast_mul, Int.toNat_of_nonneg (by omega), Int.toNat_of_nonneg (by omega)]
  omega
theorem addW_eq {a b : V3} (ha : Bd 1000000 a) (hb : Bd 1000000 b) : addW a b = add a b := by
  have := ha.x; have := ha.y; have := ha.z; have := hb.x; have := hb.y; have := hb.z
  unfold addW add; rw [W_eq (by omega), W_eq (by omega), W_eq (by omega)]
theorem subW_eq {a b : V3} (ha : Bd 1000000 a) (hb : Bd 1000000 b) : subW a b = sub a b := by
  have := ha.x; have := ha.y; have := ha.z; have := hb.x; have := hb.y; have := hb.z
  unfold subW sub; rw [W_eq (by omega), W_eq (by omega), W_eq (by omega)]
theorem dotW_eq {a b : V3} (ha : Bd 1000000 a) (hb : Bd 1000000 b) : dotW a b = dot a b := by
  have h1 := mulB ha.x hb.x; have h2 := mulB ha.y hb.y; have h3 := mulB ha.z hb.z
  unfold dotW dot; rw [W_eq (n := a.x * b.x) (by omega), W_eq (n := a.y * b.y) (by omega), W_eq (n := a.z * b.z) (by omega), W_eq (n := a.x * b.x + a.y * b.y) (by omega), W_eq (by omega)]
theorem crossW_eq {a b : V3} (ha : Bd 1000000 a) (hb : Bd 1000000 b) : crossW a b = cross a b := by
  have h1 := mulB ha.y hb.z; have h2 := mulB ha.z hb.y; have h3 := mulB ha.z hb.x; have h4 := mulB ha.x hb.z; have h5 := mulB ha.x hb.y; have h6 := mulB ha.y hb.x
  unfold crossW cross
  rw [W_eq (n := a.y * b.z) (by omega), W_eq (n := a.z * b.y) (by omega), W_eq (n := a.z * b.x) (by omega), W_eq (n := a.x * b.z) (by omega), W_eq (n := a.x * b.y) (by omega), W_eq (n := a.y * b.x) (by omega), W_eq (by omega), W_eq (by omega), W_eq (by omega)]
theorem plusW_eq {a b : V3} {n : Int} (ha : Bd 1000000 a) (hb : Bd 1000000 b) (hn : -1000000 ≤ n ∧ n ≤ 1000000) : plusW a b n = plus a b n := by
  have := ha.x; have := ha.y; have := ha.z
  have h1 := mulB hn hb.x; have h2 := mulB hn hb.y; have h3 := mulB hn hb.z
  unfold plusW plus; rw [W_eq (n := n * b.x) (by omega), W_eq (n := n * b.y) (by omega), W_eq (n := n * b.z) (by omega), W_eq (by omega), W_eq (by omega), W_eq (by omega)]
theorem Bd.add {a b : V3} {n m : Int} (ha : Bd n a) (hb : Bd m b) : Bd (n + m) (add a b) := by
  have := ha.x; have := ha.y; have := ha.z; have := hb.x; have := hb.y; have := hb.z
  exact ⟨by simp only [YteommcdafifckaaDoor.add]; omega, by simp only [YteommcdafifckaaDoor.add]; omega, by simp only [YteommcdafifckaaDoor.add]; omega⟩
theorem Bd.sub {a b : V3} {n m : Int} (ha : Bd n a) (hb : Bd m b) : Bd (n + m) (sub a b) := by
  have := ha.x; have := ha.y; have := ha.z; have := hb.x; have := hb.y; have := hb.z
  exact ⟨by simp only [YteommcdafifckaaDoor.sub]; omega, by simp only [YteommcdafifckaaDoor.sub]; omega, by simp only [YteommcdafifckaaDoor.sub]; omega⟩
theorem Bd.plus {a b : V3} {n m q : Int} {k : Int} (ha : Bd n a) (hb : Bd m b) (hk : -q ≤ k ∧ k ≤ q) : Bd (n + q * m) (plus a b k) := by
  have := ha.x; have := ha.y; have := ha.z
  have h1 := mulB hk hb.x; have h2 := mulB hk hb.y; have h3 := mulB hk hb.z
  exact ⟨by simp only [YteommcdafifckaaDoor.plus]; omega, by simp only [YteommcdafifckaaDoor.plus]; omega, by simp only [YteommcdafifckaaDoor.plus]; omega⟩

def gL (l : List Int) : Nat := l.foldl (fun g n => Nat.gcd g n.natAbs) 0
theorem gL_succ {l : List Int} {k : Nat} {x : Int} (h : l[k]? = some x) : gL (l.take (k + 1)) = Nat.gcd (gL (l.take k)) x.natAbs := by
  obtain ⟨hk, rfl⟩ := List.getElem?_eq_some_iff.1 h
  unfold gL
  rw [List.take_succ_eq_append_getElem hk, List.foldl_append]; rfl
def gS (v : V3) : Nat := gL [v.x, v.y, v.z]
def primV (v : V3) : V3 := if gS v = 0 then ⟨0, 0, 0⟩ else ⟨v.x.tdiv (gS v), v.y.tdiv (gS v), v.z.tdiv (gS v)⟩
theorem gcd_step (g n : Nat) : Nat.gcd n (g % n) = Nat.gcd g n := by rw [Nat.gcd_comm n, ← Nat.gcd_rec, Nat.gcd_comm]
theorem tmod_nat (g n : Nat) : ((g : Int)).tmod (n : Int) = ((g % n : Nat) : Int) := (Int.ofNat_tmod g n).symm
theorem tdiv_le (a : Int) (b : Nat) : (a.tdiv b).natAbs ≤ a.natAbs := by rw [Int.natAbs_tdiv]; exact Nat.div_le_self _ _
theorem tdivW {a : Int} {b : Nat} (h : -1000000 ≤ a ∧ a ≤ 1000000) : W (a.tdiv b) = a.tdiv b := W_eq (by have := tdiv_le a b; omega)
theorem abs_max (n : Int) : max n (-n) = (n.natAbs : Int) := by omega
def withinS (m : Int) (l : List Int) : Bool := l.all fun n => decide (-m ≤ n ∧ n ≤ m)
theorem within_t {m : Int} {l : List Int} (h : ∀ (k : Nat) (n : Int), l[k]? = some n → -m ≤ n ∧ n ≤ m) : withinS m l = true := List.all_eq_true.2 fun n hn => by
  obtain ⟨k, hk⟩ := List.getElem?_of_mem hn
  exact decide_eq_true (h k n hk)
theorem within_f {m : Int} {l : List Int} {k : Nat} {n : Int} (hk : l[k]? = some n) (h : n < -m ∨ m < n) : withinS m l = false := by
  cases e : withinS m l with
  | false => rfl
  | true => have := of_decide_eq_true (List.all_eq_true.1 e n (List.mem_of_getElem? hk)); omega
def inS (v : V3) : Bool := withinS 24 [v.x, v.y, v.z]
theorem in_bd {v : V3} (h : inS v = true) : Bd 24 v := by
  simp only [inS, withinS, List.all_cons, List.all_nil, Bool.and_eq_true, decide_eq_true_eq, and_true] at h
  exact ⟨h.1, h.2.1, h.2.2⟩
def lenS (v : V3) : Int := let x := max v.x (-v.x); let y := max v.y (-v.y); let z := max v.z (-v.z); if x + y + z = max x (max y z) then x + y + z else 0

def mc16 : MC := (.seq (.reg [⟨(some 4), (.mv (.c (.int .i64 0))), none, []⟩] false) (.seq (.seq (.reg [⟨(some 5), (.mv (.t 1)), none, []⟩, ⟨(some 6), (.bin .lss (.t 5) (.c (.int .i64 1))), none, [0]⟩] false) (.cond (.t 6) (.seq (.reg [⟨(some 4), (.mv (.c (.int .i64 0))), none, []⟩] false) .ret) .skip)) (.seq (.reg [⟨(some 7), (.mv (.t 0)), none, []⟩, ⟨(some 8), (.mv (.t 1)), none, []⟩, ⟨(some 9), (.bin .rem (.t 7) (.t 8)), none, [0, 1]⟩, ⟨(some 10), (.mv (.t 1)), none, []⟩, ⟨(some 11), (.bin .add (.t 9) (.t 10)), none, [2, 3]⟩, ⟨(some 12), (.mv (.t 1)), none, []⟩, ⟨(some 13), (.bin .rem (.t 11) (.t 12)), none, [4, 5]⟩, ⟨(some 4), (.mv (.t 13)), none, [6, 0, 1, 2, 3, 4, 5, 6]⟩] false) .ret)))
theorem mcOk16 : (match Tryd.f35.body with | some c => compC Tryd.prog 14 c | none => none) = some mc16 := by kernel_rfl

theorem fc16 (n m : Int) (hm : m ≤ 4611686018427387904) : FC Tryd.prog 35 [.int .i64 n, .int .i64 m] [] (.int .i64 (modS n m)) [] false := by
  refine fc_run (nt := 14) Tryd.func35 rfl rfl mcOk16 (Nat.le_of_ble_eq_true rfl) ?_
  delta mc16
  refine aw_seq ?_
  refine aw_reg ?_
  refine rs_mv rfl rfl ?_
  refine rs_nil fun _ => ?_
  refine th_n ?_
  refine aw_seq ?_
  refine aw_seq ?_
  refine aw_reg ?_
  refine rs_mv rfl rfl ?_
  refine rs_lss rfl rfl rfl ?_
  refine rs_nil fun _ => ?_
  refine th_n ?_
  refine aw_cond rfl (fun h6 => ?_) (fun h6 => ?_)
  · replace h6 := of_decide_eq_true h6
    have hr : modS n m = 0 := if_pos h6
    refine aw_seq ?_
    refine aw_reg ?_
    refine rs_mv rfl rfl ?_
    refine rs_nil fun _ => ?_
    refine th_n ?_
    refine aw_ret ?_
    refine th_r ?_
    exact ret_pure rfl (by rw [hr]; first | rfl | exact congrArg _ (mod_eq n m (by omega))) rfl (.inr rfl)
  · replace h6 := of_decide_eq_false h6
    have hr : modS n m = n % m := if_neg h6
    have ht := tmod_range n m (by omega)
    refine aw_skip ?_
    refine th_n ?_
    refine aw_seq ?_
    refine aw_reg ?_
    refine rs_mv rfl rfl ?_
    refine rs_mv rfl rfl ?_
    refine rs_rem rfl rfl rfl (by omega) rfl ?_
    refine rs_mv rfl rfl ?_
    refine rs_add rfl rfl rfl (by omega) ?_
    refine rs_mv rfl rfl ?_
    refine rs_rem rfl rfl rfl (by omega) rfl ?_
    refine rs_mv rfl rfl ?_
    refine rs_nil fun _ => ?_
    refine th_n ?_
    refine aw_ret ?_
    exact ret_pure rfl (by rw [hr]; first | rfl | exact congrArg _ (mod_eq n m (by omega))) rfl (.inr rfl)

def mc35 : MC := (.seq (.reg [⟨(some 4), (.mv (.c (.int .i64 0))), none, []⟩] false) (.seq (.seq (.reg [⟨(some 5), (.mv (.t 0)), none, []⟩, ⟨(some 6), (.nilc (.t 5)), none, [0]⟩, ⟨(some 7), (.fa 1 (.t 6)), none, [1]⟩, ⟨(some 8), (.ld false 1 (.t 7)), none, [2]⟩, ⟨(some 9), (.mv (.t 0)), none, []⟩, ⟨(some 10), (.nilc (.t 9)), none, [4]⟩, ⟨(some 11), (.fa 0 (.t 10)), none, [5]⟩, ⟨(some 12), (.ld false 1 (.t 11)), none, [6]⟩, ⟨(some 13), (.len (.t 12)), none, [7]⟩, ⟨(some 14), (.bin .geq (.t 8) (.t 13)), none, [3, 8]⟩] true) (.cond (.t 14) (.seq (.reg [⟨(some 4), (.mv (.c (.int .i64 0))), none, []⟩] false) .ret) .skip)) (.seq (.reg [⟨(some 15), (.mv (.t 0)), none, []⟩, ⟨(some 16), (.nilc (.t 15)), none, [0]⟩, ⟨(some 17), (.fa 1 (.t 16)), none, [1]⟩, ⟨(some 18), (.ld false 1 (.t 17)), none, [2]⟩, ⟨(some 19), (.bin .add (.t 18) (.c (.int .i64 1))), none, [3]⟩, ⟨(some 20), (.nilc (.t 15)), none, [0, 0, 1, 2, 3, 4]⟩, ⟨(some 21), (.fa 1 (.t 20)), none, [5, 0, 1, 2, 3, 4]⟩, ⟨none, (.st 1 (.t 21) (.t 19)), none, [6, 4, 0, 1, 2, 3, 4]⟩] false) (.seq (.reg [⟨(some 22), (.mv (.t 0)), none, []⟩, ⟨(some 23), (.nilc (.t 22)), none, [0]⟩, ⟨(some 24), (.fa 0 (.t 23)), none, [1]⟩, ⟨(some 25), (.ld false 1 (.t 24)), none, [2]⟩, ⟨(some 26), (.mv (.t 0)), none, []⟩, ⟨(some 27), (.nilc (.t 26)), none, [4]⟩, ⟨(some 28), (.fa 1 (.t 27)), none, [5]⟩, ⟨(some 29), (.ld false 1 (.t 28)), none, [6]⟩, ⟨(some 30), (.bin .sub (.t 29) (.c (.int .i64 1))), none, [7]⟩, ⟨(some 31), (.ixsl 1 (.t 25) (.t 30)), none, [3, 8]⟩, ⟨(some 32), (.ld false 1 (.t 31)), none, [9]⟩, ⟨(some 33), (.mv (.t 1)), none, []⟩, ⟨(some 34), (.call 35 [(.t 32), (.t 33)]), none, [10, 11]⟩, ⟨(some 4), (.mv (.t 34)), none, [12, 12, 0, 1, 2, 3, 4, 5, 6, 7, 8, 9, 10, 11, 12]⟩] true) .ret))))
theorem mcOk35 : (match Tryd.f18.body with | some c => compC Tryd.prog 35 c | none => none) = some mc35 := by kernel_rfl

theorem fc35_ (e : Nat) (L : List Int) (k : Nat) (n : Int) (hn : n ≤ 4611686018427387904) (hL : L.length ≤ 4611686018427387904) : FC Tryd.prog 18 [.ptr 1000 0 0, .int .i64 n] [(1000, drawOb e L k)] (.int .i64 (nextV L k n)) [(1000, drawOb e L (nextA L k))] true := by
  refine fc_run (nt := 35) Tryd.func18 rfl rfl mcOk35 (Nat.le_of_ble_eq_true rfl) ?_
  delta mc35
  refine aw_seq ?_
  refine aw_reg ?_
  refine rs_mv rfl rfl ?_
  refine rs_nil fun _ => ?_
  refine th_n ?_
  refine aw_seq ?_
  refine aw_seq ?_
  refine aw_draw hmix ?_
  refine rs_mv rfl rfl ?_
  refine rs_nilc_p rfl rfl ?_
  refine rs_fa_p rfl rfl ?_
  refine rs_ld_p rfl rfl rfl rfl rfl ?_
  refine rs_mv rfl rfl ?_
  refine rs_nilc_p rfl rfl ?_
  refine rs_fa_p rfl rfl ?_
  refine rs_ld_p rfl rfl rfl rfl rfl ?_
  refine rs_len_m rfl rfl ?_
  refine rs_geq rfl rfl rfl ?_
  refine rs_nil ⟨by kernel_rfl, fun _ => ?_⟩
  refine th_n ?_
  refine aw_cond rfl (fun h14 => ?_) (fun h14 => ?_)
  · replace h14 := of_decide_eq_true h14
    have e1 : nextV L k n = 0 := by unfold nextV; rw [List.getElem?_eq_none (by omega)]
    have e2 : nextA L k = k := if_neg (by omega)
    rw [e1, e2]
    refine aw_seq ?_
    refine aw_reg ?_
    refine rs_mv rfl rfl ?_
    refine rs_nil fun _ => ?_
    refine th_n ?_
    refine aw_ret ?_
    refine th_r ?_
    exact ret_own rfl (rc_same rfl (.inl rfl)) (.keep rfl rfl .nil) (.cons rfl rfl rfl .nil)
  · replace h14 := of_decide_eq_false h14
    have hk : k < L.length := by omega
    have e1 : nextV L k n = modS L[k] n := by unfold nextV; rw [List.getElem?_eq_getElem hk]
    have e2 : nextA L k = k + 1 := if_pos hk
    rw [e1, e2]
    refine aw_skip ?_
    refine th_n ?_
    refine aw_seq ?_
    refine aw_reg ?_
    refine rs_mv rfl rfl ?_
    refine rs_nilc_p rfl rfl ?_
    refine rs_fa_p rfl rfl ?_
    refine rs_ld_p rfl rfl rfl rfl rfl ?_
    refine rs_add rfl rfl rfl (by omega) ?_
    refine rs_nilc_p rfl rfl ?_
    refine rs_fa_p rfl rfl ?_
    refine rs_st rfl rfl rfl rfl rfl rfl rfl (Nat.le_of_ble_eq_true rfl) rfl rfl ?_
    refine rs_nil fun _ => ?_
    refine th_n ?_
    refine aw_seq ?_
    refine aw_draw hmix ?_
    refine rs_mv rfl rfl ?_
    refine rs_nilc_p rfl rfl ?_
    refine rs_fa_p rfl rfl ?_
    refine rs_ld_p rfl rfl rfl rfl rfl ?_
    refine rs_mv rfl rfl ?_
    refine rs_nilc_p rfl rfl ?_
    refine rs_fa_p rfl rfl ?_
    refine rs_ld_p rfl rfl rfl rfl rfl ?_
    refine rs_sub (b := 1) (a := ((k + 1 : Nat) : Int)) rfl rfl rfl (by omega) ?_
    refine rs_ix_m (t := k) rfl rfl (congrArg (fun x => some (AV.int .i64 x)) (by omega)) (by omega) ?_
    refine rs_ld_r rfl rfl rfl ?_
    refine rs_mv rfl rfl ?_
    refine rs_calln [] rfl rfl (fc16 L[k] n hn) (.cons (hv_same rfl) (.cons (hv_same rfl) (.nil))) rfl ?_
    refine rs_mv rfl rfl ?_
    refine rs_nil ⟨by kernel_rfl, fun _ => ?_⟩
    refine th_n ?_
    refine aw_ret ?_
    exact ret_own rfl (rc_same rfl (.inl rfl)) (.keep rfl rfl .nil) (.cons rfl rfl rfl .nil)

theorem fc35 (i e : Nat) (L : List Int) (k : Nat) (n : Int) (hn : n ≤ 4611686018427387904) (hL : L.length ≤ 4611686018427387904) : FC Tryd.prog 18 [.ptr i 0 0, .int .i64 n] [(i, drawOb e L k)] (.int .i64 (nextV L k n)) [(i, drawOb e L (nextA L k))] true :=
  fc_ren (swp 1000 i) (swp_swp _ _) (fc35_ e L k n hn hL) (.cons (.ptr (by simp [swp])) (.cons (.closed rfl) .nil)) (.cons (by simp [swp]) .flat .nil) (.closed rfl) (.cons (by simp [swp]) .flat .nil)
/-- A vector that a draw makes. -/
def vecV (L : List Int) (k : Nat) (n : Int) : V3 := ⟨nextV L k (2 * n + 1) - n, nextV L (nextA L k) (2 * n + 1) - n, nextV L (nextA L (nextA L k)) (2 * n + 1) - n⟩
def vecA (L : List Int) (k : Nat) : Nat := nextA L (nextA L (nextA L k))
theorem vecV_bd (L : List Int) (k : Nat) (n : Int) (h : 0 ≤ n) : Bd n (vecV L k n) := by
  have h1 := nextV_range L k (2 * n + 1) (by omega)
  have h2 := nextV_range L (nextA L k) (2 * n + 1) (by omega)
  have h3 := nextV_range L (nextA L (nextA L k)) (2 * n + 1) (by omega)
  exact ⟨by simp only [vecV]; omega, by simp only [vecV]; omega, by simp only [vecV]; omega⟩

def mc36 : MC := (.seq (.reg [⟨(some 4), (.alloc 26 3 [(.int .i64 0), (.int .i64 0), (.int .i64 0)]), none, []⟩] false) (.seq (.reg [⟨(some 8), (.mv (.t 0)), none, []⟩, ⟨(some 9), (.mv (.t 1)), none, []⟩, ⟨(some 10), (.bin .mul (.c (.int .i64 2)) (.t 9)), none, [1]⟩, ⟨(some 11), (.bin .add (.t 10) (.c (.int .i64 1))), none, [2]⟩, ⟨(some 12), (.call 18 [(.t 8), (.t 11)]), none, [0, 3]⟩, ⟨(some 13), (.mv (.t 1)), none, []⟩, ⟨(some 14), (.bin .sub (.t 12) (.t 13)), none, [4, 5]⟩, ⟨(some 5), (.mv (.t 14)), none, [6, 4, 0, 1, 2, 3, 4, 5, 6]⟩] false) (.seq (.reg [⟨(some 15), (.mv (.t 0)), none, []⟩, ⟨(some 16), (.mv (.t 1)), none, []⟩, ⟨(some 17), (.bin .mul (.c (.int .i64 2)) (.t 16)), none, [1]⟩, ⟨(some 18), (.bin .add (.t 17) (.c (.int .i64 1))), none, [2]⟩, ⟨(some 19), (.call 18 [(.t 15), (.t 18)]), none, [0, 3]⟩, ⟨(some 20), (.mv (.t 1)), none, []⟩, ⟨(some 21), (.bin .sub (.t 19) (.t 20)), none, [4, 5]⟩, ⟨(some 6), (.mv (.t 21)), none, [6, 4, 0, 1, 2, 3, 4, 5, 6]⟩] false) (.seq (.reg [⟨(some 22), (.mv (.t 0)), none, []⟩, ⟨(some 23), (.mv (.t 1)), none, []⟩, ⟨(some 24), (.bin .mul (.c (.int .i64 2)) (.t 23)), none, [1]⟩, ⟨(some 25), (.bin .add (.t 24) (.c (.int .i64 1))), none, [2]⟩, ⟨(some 26), (.call 18 [(.t 22), (.t 25)]), none, [0, 3]⟩, ⟨(some 27), (.mv (.t 1)), none, []⟩, ⟨(some 28), (.bin .sub (.t 26) (.t 27)), none, [4, 5]⟩, ⟨(some 7), (.mv (.t 28)), none, [6, 4, 0, 1, 2, 3, 4, 5, 6]⟩] false) (.seq (.reg [⟨(some 29), (.mv (.t 5)), none, []⟩, ⟨(some 30), (.mv (.t 6)), none, []⟩, ⟨(some 31), (.mv (.t 7)), none, []⟩, ⟨(some 32), (.build [(.int .i64 0), (.int .i64 0), (.int .i64 0)] [(0, (1, (.t 29))), (1, (1, (.t 30))), (2, (1, (.t 31)))]), none, [0, 1, 2]⟩, ⟨none, (.st 3 (.t 4) (.t 32)), none, [3, 0, 1, 2, 3]⟩] false) .ret)))))
theorem mcOk36 : (match Tryd.f19.body with | some c => compC Tryd.prog 33 c | none => none) = some mc36 := by kernel_rfl

theorem fc36_ (e : Nat) (L : List Int) (k : Nat) (n : Int) (hn : 0 ≤ n ∧ n ≤ 1000) (hL : L.length ≤ 4611686018427387904) : FC Tryd.prog 19 [.ptr 1000 0 0, .int .i64 n] [(1000, drawOb e L k)] (aV (vecV L k n)) [(1000, drawOb e L (vecA L k))] true := by
  refine fc_run (nt := 33) Tryd.func19 rfl rfl mcOk36 (Nat.le_of_ble_eq_true rfl) ?_
  delta mc36
  refine aw_seq ?_
  refine aw_reg ?_
  refine rs_alloc rfl rfl rfl ?_
  refine rs_nil fun _ => ?_
  refine th_n ?_
  refine aw_seq ?_
  refine aw_reg ?_
  refine rs_mv rfl rfl ?_
  refine rs_mv rfl rfl ?_
  refine rs_mulw rfl rfl rfl (W_eq (by omega)) ?_
  refine rs_add rfl rfl rfl (by omega) ?_
  refine rs_callo [(1000, drawOb e L (k))] rfl rfl (fc35 1000 e L (k) (2 * n + 1) (by omega) hL) (.cons (hv_same rfl) (.cons (hv_same rfl) (.nil))) (.cons rfl (.nil)) rfl rfl rfl ?_
  refine rs_mv rfl rfl ?_
  have hn1 := nextV_range L k (2 * n + 1) (by omega)
  refine rs_sub rfl rfl rfl (by omega) ?_
  refine rs_mv rfl rfl ?_
  refine rs_nil fun _ => ?_
  refine th_n ?_
  refine aw_seq ?_
  refine aw_reg ?_
  refine rs_mv rfl rfl ?_
  refine rs_mv rfl rfl ?_
  refine rs_mulw rfl rfl rfl (W_eq (by omega)) ?_
  refine rs_add rfl rfl rfl (by omega) ?_
  refine rs_callo [(1000, drawOb e L (nextA L k))] rfl rfl (fc35 1000 e L (nextA L k) (2 * n + 1) (by omega) hL) (.cons (hv_same rfl) (.cons (hv_same rfl) (.nil))) (.cons rfl (.nil)) rfl rfl rfl ?_
  refine rs_mv rfl rfl ?_
  have hn2 := nextV_range L (nextA L k) (2 * n + 1) (by omega)
  refine rs_sub rfl rfl rfl (by omega) ?_
  refine rs_mv rfl rfl ?_
  refine rs_nil fun _ => ?_
  refine th_n ?_
  refine aw_seq ?_
  refine aw_reg ?_
  refine rs_mv rfl rfl ?_
  refine rs_mv rfl rfl ?_
  refine rs_mulw rfl rfl rfl (W_eq (by omega)) ?_
  refine rs_add rfl rfl rfl (by omega) ?_
  refine rs_callo [(1000, drawOb e L (nextA L (nextA L k)))] rfl rfl (fc35 1000 e L (nextA L (nextA L k)) (2 * n + 1) (by omega) hL) (.cons (hv_same rfl) (.cons (hv_same rfl) (.nil))) (.cons rfl (.nil)) rfl rfl rfl ?_
  refine rs_mv rfl rfl ?_
  have hn3 := nextV_range L (nextA L (nextA L k)) (2 * n + 1) (by omega)
  refine rs_sub rfl rfl rfl (by omega) ?_
  refine rs_mv rfl rfl ?_
  refine rs_nil fun _ => ?_
  refine th_n ?_
  refine aw_seq ?_
  refine aw_reg ?_
  refine rs_mv rfl rfl ?_
  refine rs_mv rfl rfl ?_
  refine rs_mv rfl rfl ?_
  refine rs_build rfl rfl ?_
  refine rs_st rfl rfl rfl rfl rfl rfl rfl (Nat.le_of_ble_eq_true rfl) rfl rfl ?_
  refine rs_nil fun _ => ?_
  refine th_n ?_
  refine aw_ret ?_
  exact ret_own rfl (rc_same rfl (.inl rfl)) (.keep rfl rfl .nil) (.cons rfl rfl rfl .nil)

theorem fc36 (i e : Nat) (L : List Int) (k : Nat) (n : Int) (hn : 0 ≤ n ∧ n ≤ 1000) (hL : L.length ≤ 4611686018427387904) : FC Tryd.prog 19 [.ptr i 0 0, .int .i64 n] [(i, drawOb e L k)] (aV (vecV L k n)) [(i, drawOb e L (vecA L k))] true :=
  fc_ren (swp 1000 i) (swp_swp _ _) (fc36_ e L k n hn hL) (.cons (.ptr (by simp [swp])) (.cons (.closed rfl) .nil)) (.cons (by simp [swp]) .flat .nil) (.closed rfl) (.cons (by simp [swp]) .flat .nil)

def mc27 : MC := (.seq (.reg [⟨(some 2), (.box 26 3 (.t 0)), none, []⟩, ⟨(some 3), (.box 26 3 (.t 1)), none, []⟩, ⟨(some 4), (.alloc 26 3 [(.int .i64 0), (.int .i64 0), (.int .i64 0)]), none, []⟩] false) (.seq (.reg [⟨(some 5), (.fa 0 (.t 2)), none, []⟩, ⟨(some 6), (.ld false 1 (.t 5)), none, [0]⟩, ⟨(some 7), (.fa 0 (.t 3)), none, []⟩, ⟨(some 8), (.ld false 1 (.t 7)), none, [2]⟩, ⟨(some 9), (.bin .sub (.t 6) (.t 8)), none, [1, 3]⟩, ⟨(some 10), (.fa 1 (.t 2)), none, []⟩, ⟨(some 11), (.ld false 1 (.t 10)), none, [5]⟩, ⟨(some 12), (.fa 1 (.t 3)), none, []⟩, ⟨(some 13), (.ld false 1 (.t 12)), none, [7]⟩, ⟨(some 14), (.bin .sub (.t 11) (.t 13)), none, [6, 8]⟩, ⟨(some 15), (.fa 2 (.t 2)), none, []⟩, ⟨(some 16), (.ld false 1 (.t 15)), none, [10]⟩, ⟨(some 17), (.fa 2 (.t 3)), none, []⟩, ⟨(some 18), (.ld false 1 (.t 17)), none, [12]⟩, ⟨(some 19), (.bin .sub (.t 16) (.t 18)), none, [11, 13]⟩, ⟨(some 20), (.build [(.int .i64 0), (.int .i64 0), (.int .i64 0)] [(0, (1, (.t 9))), (1, (1, (.t 14))), (2, (1, (.t 19)))]), none, [4, 9, 14]⟩, ⟨none, (.st 3 (.t 4) (.t 20)), none, [15, 0, 1, 2, 3, 4, 5, 6, 7, 8, 9, 10, 11, 12, 13, 14, 15]⟩] false) .ret))
theorem mcOk27 : (match Tryd.f22.body with | some c => compC Tryd.prog 21 c | none => none) = some mc27 := by kernel_rfl

theorem fc27 (a b : V3) : FC Tryd.prog 22 [aV a, aV b] [] (aV (subW a b)) [] false := by
  refine fc_run (nt := 21) Tryd.func22 rfl rfl mcOk27 (Nat.le_of_ble_eq_true rfl) ?_
  delta mc27
  refine aw_seq ?_
  refine aw_reg ?_
  refine rs_box rfl rfl rfl rfl rfl rfl ?_
  refine rs_box rfl rfl rfl rfl rfl rfl ?_
  refine rs_alloc rfl rfl rfl ?_
  refine rs_nil fun _ => ?_
  refine th_n ?_
  refine aw_seq ?_
  refine aw_reg ?_
  refine rs_fa_p rfl rfl ?_
  refine rs_ld_p rfl rfl rfl rfl rfl ?_
  refine rs_fa_p rfl rfl ?_
  refine rs_ld_p rfl rfl rfl rfl rfl ?_
  refine rs_subw rfl rfl rfl rfl ?_
  refine rs_fa_p rfl rfl ?_
  refine rs_ld_p rfl rfl rfl rfl rfl ?_
  refine rs_fa_p rfl rfl ?_
  refine rs_ld_p rfl rfl rfl rfl rfl ?_
  refine rs_subw rfl rfl rfl rfl ?_
  refine rs_fa_p rfl rfl ?_
  refine rs_ld_p rfl rfl rfl rfl rfl ?_
  refine rs_fa_p rfl rfl ?_
  refine rs_ld_p rfl rfl rfl rfl rfl ?_
  refine rs_subw rfl rfl rfl rfl ?_
  refine rs_build rfl rfl ?_
  refine rs_st rfl rfl rfl rfl rfl rfl rfl (Nat.le_of_ble_eq_true rfl) rfl rfl ?_
  refine rs_nil fun _ => ?_
  refine th_n ?_
  refine aw_ret ?_
  exact ret_pure rfl rfl rfl (.inr rfl)

def mc28 : MC := (.seq (.reg [⟨(some 2), (.box 26 3 (.t 0)), none, []⟩, ⟨(some 3), (.box 26 3 (.t 1)), none, []⟩, ⟨(some 4), (.alloc 26 3 [(.int .i64 0), (.int .i64 0), (.int .i64 0)]), none, []⟩] false) (.seq (.reg [⟨(some 5), (.fa 0 (.t 2)), none, []⟩, ⟨(some 6), (.ld false 1 (.t 5)), none, [0]⟩, ⟨(some 7), (.fa 0 (.t 3)), none, []⟩, ⟨(some 8), (.ld false 1 (.t 7)), none, [2]⟩, ⟨(some 9), (.bin .add (.t 6) (.t 8)), none, [1, 3]⟩, ⟨(some 10), (.fa 1 (.t 2)), none, []⟩, ⟨(some 11), (.ld false 1 (.t 10)), none, [5]⟩, ⟨(some 12), (.fa 1 (.t 3)), none, []⟩, ⟨(some 13), (.ld false 1 (.t 12)), none, [7]⟩, ⟨(some 14), (.bin .add (.t 11) (.t 13)), none, [6, 8]⟩, ⟨(some 15), (.fa 2 (.t 2)), none, []⟩, ⟨(some 16), (.ld false 1 (.t 15)), none, [10]⟩, ⟨(some 17), (.fa 2 (.t 3)), none, []⟩, ⟨(some 18), (.ld false 1 (.t 17)), none, [12]⟩, ⟨(some 19), (.bin .add (.t 16) (.t 18)), none, [11, 13]⟩, ⟨(some 20), (.build [(.int .i64 0), (.int .i64 0), (.int .i64 0)] [(0, (1, (.t 9))), (1, (1, (.t 14))), (2, (1, (.t 19)))]), none, [4, 9, 14]⟩, ⟨none, (.st 3 (.t 4) (.t 20)), none, [15, 0, 1, 2, 3, 4, 5, 6, 7, 8, 9, 10, 11, 12, 13, 14, 15]⟩] false) .ret))
theorem mcOk28 : (match Tryd.f29.body with | some c => compC Tryd.prog 21 c | none => none) = some mc28 := by kernel_rfl

theorem fc28 (a b : V3) : FC Tryd.prog 29 [aV a, aV b] [] (aV (addW a b)) [] false := by
  refine fc_run (nt := 21) Tryd.func29 rfl rfl mcOk28 (Nat.le_of_ble_eq_true rfl) ?_
  delta mc28
  refine aw_seq ?_
  refine aw_reg ?_
  refine rs_box rfl rfl rfl rfl rfl rfl ?_
  refine rs_box rfl rfl rfl rfl rfl rfl ?_
  refine rs_alloc rfl rfl rfl ?_
  refine rs_nil fun _ => ?_
  refine th_n ?_
  refine aw_seq ?_
  refine aw_reg ?_
  refine rs_fa_p rfl rfl ?_
  refine rs_ld_p rfl rfl rfl rfl rfl ?_
  refine rs_fa_p rfl rfl ?_
  refine rs_ld_p rfl rfl rfl rfl rfl ?_
  refine rs_addw rfl rfl rfl rfl ?_
  refine rs_fa_p rfl rfl ?_
  refine rs_ld_p rfl rfl rfl rfl rfl ?_
  refine rs_fa_p rfl rfl ?_
  refine rs_ld_p rfl rfl rfl rfl rfl ?_
  refine rs_addw rfl rfl rfl rfl ?_
  refine rs_fa_p rfl rfl ?_
  refine rs_ld_p rfl rfl rfl rfl rfl ?_
  refine rs_fa_p rfl rfl ?_
  refine rs_ld_p rfl rfl rfl rfl rfl ?_
  refine rs_addw rfl rfl rfl rfl ?_
  refine rs_build rfl rfl ?_
  refine rs_st rfl rfl rfl rfl rfl rfl rfl (Nat.le_of_ble_eq_true rfl) rfl rfl ?_
  refine rs_nil fun _ => ?_
  refine th_n ?_
  refine aw_ret ?_
  exact ret_pure rfl rfl rfl (.inr rfl)

def mc31 : MC := (.seq (.reg [⟨(some 2), (.box 26 3 (.t 0)), none, []⟩, ⟨(some 3), (.box 26 3 (.t 1)), none, []⟩, ⟨(some 4), (.alloc 26 3 [(.int .i64 0), (.int .i64 0), (.int .i64 0)]), none, []⟩] false) (.seq (.reg [⟨(some 5), (.fa 1 (.t 2)), none, []⟩, ⟨(some 6), (.ld false 1 (.t 5)), none, [0]⟩, ⟨(some 7), (.fa 2 (.t 3)), none, []⟩, ⟨(some 8), (.ld false 1 (.t 7)), none, [2]⟩, ⟨(some 9), (.bin .mul (.t 6) (.t 8)), none, [1, 3]⟩, ⟨(some 10), (.fa 2 (.t 2)), none, []⟩, ⟨(some 11), (.ld false 1 (.t 10)), none, [5]⟩, ⟨(some 12), (.fa 1 (.t 3)), none, []⟩, ⟨(some 13), (.ld false 1 (.t 12)), none, [7]⟩, ⟨(some 14), (.bin .mul (.t 11) (.t 13)), none, [6, 8]⟩, ⟨(some 15), (.bin .sub (.t 9) (.t 14)), none, [4, 9]⟩, ⟨(some 16), (.fa 2 (.t 2)), none, []⟩, ⟨(some 17), (.ld false 1 (.t 16)), none, [11]⟩, ⟨(some 18), (.fa 0 (.t 3)), none, []⟩, ⟨(some 19), (.ld false 1 (.t 18)), none, [13]⟩, ⟨(some 20), (.bin .mul (.t 17) (.t 19)), none, [12, 14]⟩, ⟨(some 21), (.fa 0 (.t 2)), none, []⟩, ⟨(some 22), (.ld false 1 (.t 21)), none, [16]⟩, ⟨(some 23), (.fa 2 (.t 3)), none, []⟩, ⟨(some 24), (.ld false 1 (.t 23)), none, [18]⟩, ⟨(some 25), (.bin .mul (.t 22) (.t 24)), none, [17, 19]⟩, ⟨(some 26), (.bin .sub (.t 20) (.t 25)), none, [15, 20]⟩, ⟨(some 27), (.fa 0 (.t 2)), none, []⟩, ⟨(some 28), (.ld false 1 (.t 27)), none, [22]⟩, ⟨(some 29), (.fa 1 (.t 3)), none, []⟩, ⟨(some 30), (.ld false 1 (.t 29)), none, [24]⟩, ⟨(some 31), (.bin .mul (.t 28) (.t 30)), none, [23, 25]⟩, ⟨(some 32), (.fa 1 (.t 2)), none, []⟩, ⟨(some 33), (.ld false 1 (.t 32)), none, [27]⟩, ⟨(some 34), (.fa 0 (.t 3)), none, []⟩, ⟨(some 35), (.ld false 1 (.t 34)), none, [29]⟩, ⟨(some 36), (.bin .mul (.t 33) (.t 35)), none, [28, 30]⟩, ⟨(some 37), (.bin .sub (.t 31) (.t 36)), none, [26, 31]⟩, ⟨(some 38), (.build [(.int .i64 0), (.int .i64 0), (.int .i64 0)] [(0, (1, (.t 15))), (1, (1, (.t 26))), (2, (1, (.t 37)))]), none, [10, 21, 32]⟩, ⟨none, (.st 3 (.t 4) (.t 38)), none, [33, 0, 1, 2, 3, 4, 5, 6, 7, 8, 9, 10, 11, 12, 13, 14, 15, 16, 17, 18, 19, 20, 21, 22, 23, 24, 25, 26, 27, 28, 29, 30, 31, 32, 33]⟩] false) .ret))
theorem mcOk31 : (match Tryd.f24.body with | some c => compC Tryd.prog 39 c | none => none) = some mc31 := by kernel_rfl

theorem fc31 (a b : V3) : FC Tryd.prog 24 [aV a, aV b] [] (aV (crossW a b)) [] false := by
  refine fc_run (nt := 39) Tryd.func24 rfl rfl mcOk31 (Nat.le_of_ble_eq_true rfl) ?_
  delta mc31
  refine aw_seq ?_
  refine aw_reg ?_
  refine rs_box rfl rfl rfl rfl rfl rfl ?_
  refine rs_box rfl rfl rfl rfl rfl rfl ?_
  refine rs_alloc rfl rfl rfl ?_
  refine rs_nil fun _ => ?_
  refine th_n ?_
  refine aw_seq ?_
  refine aw_reg ?_
  refine rs_fa_p rfl rfl ?_
  refine rs_ld_p rfl rfl rfl rfl rfl ?_
  refine rs_fa_p rfl rfl ?_
  refine rs_ld_p rfl rfl rfl rfl rfl ?_
  refine rs_mulw rfl rfl rfl rfl ?_
  refine rs_fa_p rfl rfl ?_
  refine rs_ld_p rfl rfl rfl rfl rfl ?_
  refine rs_fa_p rfl rfl ?_
  refine rs_ld_p rfl rfl rfl rfl rfl ?_
  refine rs_mulw rfl rfl rfl rfl ?_
  refine rs_subw rfl rfl rfl rfl ?_
  refine rs_fa_p rfl rfl ?_
  refine rs_ld_p rfl rfl rfl rfl rfl ?_
  refine rs_fa_p rfl rfl ?_
  refine rs_ld_p rfl rfl rfl rfl rfl ?_
  refine rs_mulw rfl rfl rfl rfl ?_
  refine rs_fa_p rfl rfl ?_
  refine rs_ld_p rfl rfl rfl rfl rfl ?_
  refine rs_fa_p rfl rfl ?_
  refine rs_ld_p rfl rfl rfl rfl rfl ?_
  refine rs_mulw rfl rfl rfl rfl ?_
  refine rs_subw rfl rfl rfl rfl ?_
  refine rs_fa_p rfl rfl ?_
  refine rs_ld_p rfl rfl rfl rfl rfl ?_
  refine rs_fa_p rfl rfl ?_
  refine rs_ld_p rfl rfl rfl rfl rfl ?_
  refine rs_mulw rfl rfl rfl rfl ?_
  refine rs_fa_p rfl rfl ?_
  refine rs_ld_p rfl rfl rfl rfl rfl ?_
  refine rs_fa_p rfl rfl ?_
  refine rs_ld_p rfl rfl rfl rfl rfl ?_
  refine rs_mulw rfl rfl rfl rfl ?_
  refine rs_subw rfl rfl rfl rfl ?_
  refine rs_build rfl rfl ?_
  refine rs_st rfl rfl rfl rfl rfl rfl rfl (Nat.le_of_ble_eq_true rfl) rfl rfl ?_
  refine rs_nil fun _ => ?_
  refine th_n ?_
  refine aw_ret ?_
  exact ret_pure rfl rfl rfl (.inr rfl)

def mc30 : MC := (.seq (.reg [⟨(some 2), (.box 26 3 (.t 0)), none, []⟩, ⟨(some 3), (.box 26 3 (.t 1)), none, []⟩, ⟨(some 4), (.mv (.c (.int .i64 0))), none, []⟩] false) (.seq (.reg [⟨(some 5), (.fa 0 (.t 2)), none, []⟩, ⟨(some 6), (.ld false 1 (.t 5)), none, [0]⟩, ⟨(some 7), (.fa 0 (.t 3)), none, []⟩, ⟨(some 8), (.ld false 1 (.t 7)), none, [2]⟩, ⟨(some 9), (.bin .mul (.t 6) (.t 8)), none, [1, 3]⟩, ⟨(some 10), (.fa 1 (.t 2)), none, []⟩, ⟨(some 11), (.ld false 1 (.t 10)), none, [5]⟩, ⟨(some 12), (.fa 1 (.t 3)), none, []⟩, ⟨(some 13), (.ld false 1 (.t 12)), none, [7]⟩, ⟨(some 14), (.bin .mul (.t 11) (.t 13)), none, [6, 8]⟩, ⟨(some 15), (.bin .add (.t 9) (.t 14)), none, [4, 9]⟩, ⟨(some 16), (.fa 2 (.t 2)), none, []⟩, ⟨(some 17), (.ld false 1 (.t 16)), none, [11]⟩, ⟨(some 18), (.fa 2 (.t 3)), none, []⟩, ⟨(some 19), (.ld false 1 (.t 18)), none, [13]⟩, ⟨(some 20), (.bin .mul (.t 17) (.t 19)), none, [12, 14]⟩, ⟨(some 21), (.bin .add (.t 15) (.t 20)), none, [10, 15]⟩, ⟨(some 4), (.mv (.t 21)), none, [16, 0, 1, 2, 3, 4, 5, 6, 7, 8, 9, 10, 11, 12, 13, 14, 15, 16]⟩] false) .ret))
theorem mcOk30 : (match Tryd.f23.body with | some c => compC Tryd.prog 22 c | none => none) = some mc30 := by kernel_rfl

theorem fc30 (a b : V3) : FC Tryd.prog 23 [aV a, aV b] [] (iv (dotW a b)) [] false := by
  refine fc_run (nt := 22) Tryd.func23 rfl rfl mcOk30 (Nat.le_of_ble_eq_true rfl) ?_
  delta mc30
  refine aw_seq ?_
  refine aw_reg ?_
  refine rs_box rfl rfl rfl rfl rfl rfl ?_
  refine rs_box rfl rfl rfl rfl rfl rfl ?_
  refine rs_mv rfl rfl ?_
  refine rs_nil fun _ => ?_
  refine th_n ?_
  refine aw_seq ?_
  refine aw_reg ?_
  refine rs_fa_p rfl rfl ?_
  refine rs_ld_p rfl rfl rfl rfl rfl ?_
  refine rs_fa_p rfl rfl ?_
  refine rs_ld_p rfl rfl rfl rfl rfl ?_
  refine rs_mulw rfl rfl rfl rfl ?_
  refine rs_fa_p rfl rfl ?_
  refine rs_ld_p rfl rfl rfl rfl rfl ?_
  refine rs_fa_p rfl rfl ?_
  refine rs_ld_p rfl rfl rfl rfl rfl ?_
  refine rs_mulw rfl rfl rfl rfl ?_
  refine rs_addw rfl rfl rfl rfl ?_
  refine rs_fa_p rfl rfl ?_
  refine rs_ld_p rfl rfl rfl rfl rfl ?_
  refine rs_fa_p rfl rfl ?_
  refine rs_ld_p rfl rfl rfl rfl rfl ?_
  refine rs_mulw rfl rfl rfl rfl ?_
  refine rs_addw rfl rfl rfl rfl ?_
  refine rs_mv rfl rfl ?_
  refine rs_nil fun _ => ?_
  refine th_n ?_
  refine aw_ret ?_
  exact ret_pure rfl rfl rfl (.inr rfl)

def mc52 : MC := (.seq (.reg [⟨(some 2), (.box 26 3 (.t 0)), none, []⟩, ⟨(some 3), (.box 26 3 (.t 1)), none, []⟩, ⟨(some 4), (.mv (.c (.int .i64 0))), none, []⟩] false) (.seq (.reg [⟨(some 5), (.fa 0 (.t 2)), none, []⟩, ⟨(some 6), (.ld false 1 (.t 5)), none, [0]⟩, ⟨(some 7), (.fa 0 (.t 3)), none, []⟩, ⟨(some 8), (.ld false 1 (.t 7)), none, [2]⟩, ⟨(some 9), (.bin .mul (.t 6) (.t 8)), none, [1, 3]⟩, ⟨(some 10), (.fa 1 (.t 2)), none, []⟩, ⟨(some 11), (.ld false 1 (.t 10)), none, [5]⟩, ⟨(some 12), (.fa 1 (.t 3)), none, []⟩, ⟨(some 13), (.ld false 1 (.t 12)), none, [7]⟩, ⟨(some 14), (.bin .mul (.t 11) (.t 13)), none, [6, 8]⟩, ⟨(some 15), (.bin .add (.t 9) (.t 14)), none, [4, 9]⟩, ⟨(some 16), (.fa 2 (.t 2)), none, []⟩, ⟨(some 17), (.ld false 1 (.t 16)), none, [11]⟩, ⟨(some 18), (.fa 2 (.t 3)), none, []⟩, ⟨(some 19), (.ld false 1 (.t 18)), none, [13]⟩, ⟨(some 20), (.bin .mul (.t 17) (.t 19)), none, [12, 14]⟩, ⟨(some 21), (.bin .add (.t 15) (.t 20)), none, [10, 15]⟩, ⟨(some 4), (.mv (.t 21)), none, [16, 0, 1, 2, 3, 4, 5, 6, 7, 8, 9, 10, 11, 12, 13, 14, 15, 16]⟩] false) .ret))
theorem mcOk52 : (match Tryd.f40.body with | some c => compC Tryd.prog 22 c | none => none) = some mc52 := by kernel_rfl

theorem fc52 (a b : V3) : FC Tryd.prog 40 [aV a, aV b] [] (iv (dotW a b)) [] false := by
  refine fc_run (nt := 22) Tryd.func40 rfl rfl mcOk52 (Nat.le_of_ble_eq_true rfl) ?_
  delta mc52
  refine aw_seq ?_
  refine aw_reg ?_
  refine rs_box rfl rfl rfl rfl rfl rfl ?_
  refine rs_box rfl rfl rfl rfl rfl rfl ?_
  refine rs_mv rfl rfl ?_
  refine rs_nil fun _ => ?_
  refine th_n ?_
  refine aw_seq ?_
  refine aw_reg ?_
  refine rs_fa_p rfl rfl ?_
  refine rs_ld_p rfl rfl rfl rfl rfl ?_
  refine rs_fa_p rfl rfl ?_
  refine rs_ld_p rfl rfl rfl rfl rfl ?_
  refine rs_mulw rfl rfl rfl rfl ?_
  refine rs_fa_p rfl rfl ?_
  refine rs_ld_p rfl rfl rfl rfl rfl ?_
  refine rs_fa_p rfl rfl ?_
  refine rs_ld_p rfl rfl rfl rfl rfl ?_
  refine rs_mulw rfl rfl rfl rfl ?_
  refine rs_addw rfl rfl rfl rfl ?_
  refine rs_fa_p rfl rfl ?_
  refine rs_ld_p rfl rfl rfl rfl rfl ?_
  refine rs_fa_p rfl rfl ?_
  refine rs_ld_p rfl rfl rfl rfl rfl ?_
  refine rs_mulw rfl rfl rfl rfl ?_
  refine rs_addw rfl rfl rfl rfl ?_
  refine rs_mv rfl rfl ?_
  refine rs_nil fun _ => ?_
  refine th_n ?_
  refine aw_ret ?_
  exact ret_pure rfl rfl rfl (.inr rfl)

def mc37 : MC := (.seq (.reg [⟨(some 3), (.box 26 3 (.t 0)), none, []⟩, ⟨(some 4), (.box 26 3 (.t 1)), none, []⟩, ⟨(some 6), (.alloc 26 3 [(.int .i64 0), (.int .i64 0), (.int .i64 0)]), none, []⟩] false) (.seq (.reg [⟨(some 7), (.fa 0 (.t 3)), none, []⟩, ⟨(some 8), (.ld false 1 (.t 7)), none, [0]⟩, ⟨(some 9), (.mv (.t 2)), none, []⟩, ⟨(some 10), (.fa 0 (.t 4)), none, []⟩, ⟨(some 11), (.ld false 1 (.t 10)), none, [3]⟩, ⟨(some 12), (.bin .mul (.t 9) (.t 11)), none, [2, 4]⟩, ⟨(some 13), (.bin .add (.t 8) (.t 12)), none, [1, 5]⟩, ⟨(some 14), (.fa 1 (.t 3)), none, []⟩, ⟨(some 15), (.ld false 1 (.t 14)), none, [7]⟩, ⟨(some 16), (.mv (.t 2)), none, []⟩, ⟨(some 17), (.fa 1 (.t 4)), none, []⟩, ⟨(some 18), (.ld false 1 (.t 17)), none, [10]⟩, ⟨(some 19), (.bin .mul (.t 16) (.t 18)), none, [9, 11]⟩, ⟨(some 20), (.bin .add (.t 15) (.t 19)), none, [8, 12]⟩, ⟨(some 21), (.fa 2 (.t 3)), none, []⟩, ⟨(some 22), (.ld false 1 (.t 21)), none, [14]⟩, ⟨(some 23), (.mv (.t 2)), none, []⟩, ⟨(some 24), (.fa 2 (.t 4)), none, []⟩, ⟨(some 25), (.ld false 1 (.t 24)), none, [17]⟩, ⟨(some 26), (.bin .mul (.t 23) (.t 25)), none, [16, 18]⟩, ⟨(some 27), (.bin .add (.t 22) (.t 26)), none, [15, 19]⟩, ⟨(some 28), (.build [(.int .i64 0), (.int .i64 0), (.int .i64 0)] [(0, (1, (.t 13))), (1, (1, (.t 20))), (2, (1, (.t 27)))]), none, [6, 13, 20]⟩, ⟨none, (.st 3 (.t 6) (.t 28)), none, [21, 0, 1, 2, 3, 4, 5, 6, 7, 8, 9, 10, 11, 12, 13, 14, 15, 16, 17, 18, 19, 20, 21]⟩] false) .ret))
theorem mcOk37 : (match Tryd.f20.body with | some c => compC Tryd.prog 29 c | none => none) = some mc37 := by kernel_rfl

theorem fc37 (a b : V3) (n : Int) : FC Tryd.prog 20 [aV a, aV b, iv n] [] (aV (plusW a b n)) [] false := by
  refine fc_run (nt := 29) Tryd.func20 rfl rfl mcOk37 (Nat.le_of_ble_eq_true rfl) ?_
  delta mc37
  refine aw_seq ?_
  refine aw_reg ?_
  refine rs_box rfl rfl rfl rfl rfl rfl ?_
  refine rs_box rfl rfl rfl rfl rfl rfl ?_
  refine rs_alloc rfl rfl rfl ?_
  refine rs_nil fun _ => ?_
  refine th_n ?_
  refine aw_seq ?_
  refine aw_reg ?_
  refine rs_fa_p rfl rfl ?_
  refine rs_ld_p rfl rfl rfl rfl rfl ?_
  refine rs_mv rfl rfl ?_
  refine rs_fa_p rfl rfl ?_
  refine rs_ld_p rfl rfl rfl rfl rfl ?_
  refine rs_mulw rfl rfl rfl rfl ?_
  refine rs_addw rfl rfl rfl rfl ?_
  refine rs_fa_p rfl rfl ?_
  refine rs_ld_p rfl rfl rfl rfl rfl ?_
  refine rs_mv rfl rfl ?_
  refine rs_fa_p rfl rfl ?_
  refine rs_ld_p rfl rfl rfl rfl rfl ?_
  refine rs_mulw rfl rfl rfl rfl ?_
  refine rs_addw rfl rfl rfl rfl ?_
  refine rs_fa_p rfl rfl ?_
  refine rs_ld_p rfl rfl rfl rfl rfl ?_
  refine rs_mv rfl rfl ?_
  refine rs_fa_p rfl rfl ?_
  refine rs_ld_p rfl rfl rfl rfl rfl ?_
  refine rs_mulw rfl rfl rfl rfl ?_
  refine rs_addw rfl rfl rfl rfl ?_
  refine rs_build rfl rfl ?_
  refine rs_st rfl rfl rfl rfl rfl rfl rfl (Nat.le_of_ble_eq_true rfl) rfl rfl ?_
  refine rs_nil fun _ => ?_
  refine th_n ?_
  refine aw_ret ?_
  exact ret_pure rfl rfl rfl (.inr rfl)

def mc78 : MC := (.seq (.reg [⟨(some 3), (.box 26 3 (.t 0)), none, []⟩, ⟨(some 4), (.box 26 3 (.t 1)), none, []⟩, ⟨(some 6), (.alloc 26 3 [(.int .i64 0), (.int .i64 0), (.int .i64 0)]), none, []⟩] false) (.seq (.reg [⟨(some 7), (.ld true 3 (.t 3)), none, []⟩, ⟨(some 8), (.mv (.t 2)), none, []⟩, ⟨(some 9), (.fa 0 (.t 4)), none, []⟩, ⟨(some 10), (.ld false 1 (.t 9)), none, [2]⟩, ⟨(some 11), (.bin .mul (.t 8) (.t 10)), none, [1, 3]⟩, ⟨(some 12), (.mv (.t 2)), none, []⟩, ⟨(some 13), (.fa 1 (.t 4)), none, []⟩, ⟨(some 14), (.ld false 1 (.t 13)), none, [6]⟩, ⟨(some 15), (.bin .mul (.t 12) (.t 14)), none, [5, 7]⟩, ⟨(some 16), (.mv (.t 2)), none, []⟩, ⟨(some 17), (.fa 2 (.t 4)), none, []⟩, ⟨(some 18), (.ld false 1 (.t 17)), none, [10]⟩, ⟨(some 19), (.bin .mul (.t 16) (.t 18)), none, [9, 11]⟩, ⟨(some 20), (.build [(.int .i64 0), (.int .i64 0), (.int .i64 0)] [(0, (1, (.t 11))), (1, (1, (.t 15))), (2, (1, (.t 19)))]), none, [4, 8, 12]⟩, ⟨(some 21), (.call 29 [(.t 7), (.t 20)]), none, [0, 13]⟩, ⟨none, (.st 3 (.t 6) (.t 21)), none, [14, 14, 0, 1, 2, 3, 4, 5, 6, 7, 8, 9, 10, 11, 12, 13, 14]⟩] false) .ret))
theorem mcOk78 : (match Tryd.f76.body with | some c => compC Tryd.prog 22 c | none => none) = some mc78 := by kernel_rfl

theorem fc78 (a b : V3) (n : Int) : FC Tryd.prog 76 [aV a, aV b, iv n] [] (aV (plusW a b n)) [] false := by
  refine fc_run (nt := 22) Tryd.func76 rfl rfl mcOk78 (Nat.le_of_ble_eq_true rfl) ?_
  delta mc78
  refine aw_seq ?_
  refine aw_reg ?_
  refine rs_box rfl rfl rfl rfl rfl rfl ?_
  refine rs_box rfl rfl rfl rfl rfl rfl ?_
  refine rs_alloc rfl rfl rfl ?_
  refine rs_nil fun _ => ?_
  refine th_n ?_
  refine aw_seq ?_
  refine aw_reg ?_
  refine rs_ld_pa rfl rfl rfl rfl (Nat.le_of_ble_eq_true rfl) rfl ?_
  refine rs_mv rfl rfl ?_
  refine rs_fa_p rfl rfl ?_
  refine rs_ld_p rfl rfl rfl rfl rfl ?_
  refine rs_mulw rfl rfl rfl rfl ?_
  refine rs_mv rfl rfl ?_
  refine rs_fa_p rfl rfl ?_
  refine rs_ld_p rfl rfl rfl rfl rfl ?_
  refine rs_mulw rfl rfl rfl rfl ?_
  refine rs_mv rfl rfl ?_
  refine rs_fa_p rfl rfl ?_
  refine rs_ld_p rfl rfl rfl rfl rfl ?_
  refine rs_mulw rfl rfl rfl rfl ?_
  refine rs_build rfl rfl ?_
  refine rs_calln [] rfl rfl (fc28 a ⟨W (n * b.x), W (n * b.y), W (n * b.z)⟩) (.cons (hv_same rfl) (.cons (hv_same rfl) (.nil))) rfl ?_
  refine rs_st rfl rfl rfl rfl rfl rfl rfl (Nat.le_of_ble_eq_true rfl) rfl rfl ?_
  refine rs_nil fun _ => ?_
  refine th_n ?_
  refine aw_ret ?_
  exact ret_pure rfl rfl rfl (.inr rfl)

def mc55 : MC := (.seq (.reg [⟨(some 2), (.mv (.c (.int .i64 0))), none, []⟩] false) (.seq (.reg [⟨(some 3), (.mv (.t 0)), none, []⟩, ⟨(some 4), (.mv (.t 0)), none, []⟩, ⟨(some 5), (.un .neg (.t 4)), none, [1]⟩, ⟨(some 6), (.mx (.t 3) (.t 5)), none, [0, 2]⟩, ⟨(some 2), (.mv (.t 6)), none, [3, 0, 1, 2, 3]⟩] false) .ret))
theorem mcOk55 : (match Tryd.f78.body with | some c => compC Tryd.prog 7 c | none => none) = some mc55 := by kernel_rfl

theorem fc55 (n : Int) (h : -1000000 ≤ n ∧ n ≤ 1000000) : FC Tryd.prog 78 [iv n] [] (iv (n.natAbs : Int)) [] false := by
  refine fc_run (nt := 7) Tryd.func78 rfl rfl mcOk55 (Nat.le_of_ble_eq_true rfl) ?_
  delta mc55
  refine aw_seq ?_
  refine aw_reg ?_
  refine rs_mv rfl rfl ?_
  refine rs_nil fun _ => ?_
  refine th_n ?_
  refine aw_seq ?_
  refine aw_reg ?_
  refine rs_mv rfl rfl ?_
  refine rs_mv rfl rfl ?_
  refine rs_neg rfl rfl (by omega) ?_
  refine rs_mx rfl rfl rfl (abs_max n) ?_
  refine rs_mv rfl rfl ?_
  refine rs_nil fun _ => ?_
  refine th_n ?_
  refine aw_ret ?_
  exact ret_pure rfl rfl rfl (.inr rfl)

def mc46 : MC := (.seq (.reg [⟨(some 2), (.mv (.c (.int .i64 0))), none, []⟩] false) (.seq (.reg [⟨(some 3), (.mv (.c (.int .i64 0))), none, []⟩] false) (.seq (.seq (.reg [⟨(some 6), (.mv (.t 0)), none, []⟩, ⟨(some 7), (.len (.t 6)), none, [0]⟩, ⟨(some 8), (.mv (.c (.int .i64 0))), none, []⟩] false) (.block 0 (.loop (.seq (.reg [⟨(some 9), (.bin .lss (.t 8) (.t 7)), none, []⟩] false) (.seq (.cond (.t 9) .skip (.exit 0)) (.seq (.block 1 (.seq (.reg [⟨(some 10), (.ixsl 1 (.t 6) (.t 8)), none, []⟩, ⟨(some 11), (.ld false 1 (.t 10)), none, [0]⟩, ⟨(some 5), (.mv (.t 11)), none, [1, 0, 1]⟩] false) (.seq (.seq (.reg [⟨(some 12), (.mv (.t 5)), none, []⟩, ⟨(some 13), (.bin .eql (.t 12) (.c (.int .i64 (-9223372036854775808)))), none, [0]⟩] false) (.cond (.t 13) (.seq (.reg [⟨(some 2), (.mv (.c (.int .i64 0))), none, []⟩] false) .ret) .skip)) (.seq (.reg [⟨(some 14), (.mv (.t 5)), none, []⟩, ⟨(some 15), (.call 78 [(.t 14)]), none, [0]⟩, ⟨(some 5), (.mv (.t 15)), none, [1, 1, 0, 1]⟩] false) (.block 2 (.loop (.seq (.seq (.reg [⟨(some 16), (.mv (.t 5)), none, []⟩, ⟨(some 17), (.bin .gtr (.t 16) (.c (.int .i64 0))), none, [0]⟩] false) (.cond (.t 17) .skip (.exit 2))) (.block 3 (.reg [⟨(some 18), (.mv (.t 5)), none, []⟩, ⟨(some 19), (.mv (.t 3)), none, []⟩, ⟨(some 20), (.mv (.t 5)), none, []⟩, ⟨(some 21), (.bin .rem (.t 19) (.t 20)), none, [1, 2]⟩, ⟨(some 3), (.mv (.t 18)), none, [0, 0, 1]⟩, ⟨(some 5), (.mv (.t 21)), none, [3, 4, 0, 1, 2, 3, 4]⟩] true))))))))) (.reg [⟨(some 22), (.bin .add (.t 8) (.c (.int .i64 1))), none, []⟩, ⟨(some 8), (.mv (.t 22)), none, [0]⟩] false))))))) (.seq (.reg [⟨(some 23), (.mv (.t 3)), none, []⟩, ⟨(some 2), (.mv (.t 23)), none, [0, 0]⟩] false) .ret))))
theorem mcOk46 : (match Tryd.f77.body with | some c => compC Tryd.prog 24 c | none => none) = some mc46 := by kernel_rfl

theorem fc46 (l : List Int) (hl : ∀ x ∈ l, -1000000 ≤ x ∧ x ≤ 1000000) (hn : l.length ≤ 1000) : FC Tryd.prog 77 [ints l] [] (iv (gL l : Int)) [] false := by
  refine fc_run (nt := 24) Tryd.func77 rfl rfl mcOk46 (Nat.le_of_ble_eq_true rfl) ?_
  delta mc46
  refine aw_seq ?_
  refine aw_reg ?_
  refine rs_mv rfl rfl ?_
  refine rs_nil fun _ => ?_
  refine th_n ?_
  refine aw_seq ?_
  refine aw_reg ?_
  refine rs_mv rfl rfl ?_
  refine rs_nil fun _ => ?_
  refine th_n ?_
  refine aw_seq ?_
  refine aw_seq ?_
  refine aw_reg ?_
  refine rs_mv rfl rfl ?_
  refine rs_len_m rfl rfl ?_
  refine rs_mv rfl rfl ?_
  refine rs_nil fun _ => ?_
  refine th_n ?_
  refine aw_block ?_
  refine aw_fam (α := Nat) (fun k => l.length - k) (fun k => [(6, ints l), (7, iv (l.length : Int)), (8, iv (((k) : Nat) : Int)), (3, iv ((gL (l.take k) : Nat) : Int))]) (fun k => []) (fun k => k ≤ l.length) 0 (by omega)
    (weak_to (.cons rfl (rc_same rfl (.inl rfl)) (.cons rfl (rc_same rfl (.inl rfl)) (.cons rfl (rc_same rfl (.inl rfl)) (.cons rfl (rc_same rfl (.inl rfl)) (.nil))))) (.nil) (fun i h => by cases h)) ?_
  intro k hk
  refine aw_seq ?_
  refine aw_reg ?_
  refine rs_lss rfl rfl rfl ?_
  refine rs_nil fun _ => ?_
  refine th_n ?_
  refine aw_seq ?_
  refine aw_cond rfl (fun h9 => ?_) (fun h9 => ?_)
  · replace h9 := of_decide_eq_true h9
    refine aw_skip ?_
    refine th_n ?_
    refine aw_seq ?_
    refine aw_block ?_
    refine aw_seq ?_
    refine aw_reg ?_
    obtain ⟨x, hx, hxm⟩ := at_some (L := l) (k := k) (by omega)
    have hb := hl x hxm
    refine rs_ix_g rfl rfl rfl (by omega) hx ?_
    refine rs_ld_r rfl rfl rfl ?_
    refine rs_mv rfl rfl ?_
    refine rs_nil fun _ => ?_
    refine th_n ?_
    refine aw_seq ?_
    refine aw_seq ?_
    refine aw_reg ?_
    refine rs_mv rfl rfl ?_
    refine rs_eql rfl rfl rfl ?_
    refine rs_nil fun _ => ?_
    refine th_n ?_
    refine aw_cond rfl (fun h13 => ?_) (fun h13 => ?_)
    · replace h13 := of_decide_eq_true h13
      refine aw_seq ?_
      refine aw_reg ?_
      refine rs_mv rfl rfl ?_
      refine rs_nil fun _ => ?_
      refine th_n ?_
      refine aw_ret ?_
      refine th_r ?_
      refine in_r ?_
      refine th_r ?_
      refine th_r ?_
      refine in_r ?_
      refine th_r ?_
      (exfalso; omega)
    · replace h13 := of_decide_eq_false h13
      refine aw_skip ?_
      refine th_n ?_
      refine aw_seq ?_
      refine aw_reg ?_
      refine rs_mv rfl rfl ?_
      refine rs_calln [] rfl rfl (fc55 x (hl x hxm)) (.cons (hv_same rfl) (.nil)) rfl ?_
      refine rs_mv rfl rfl ?_
      refine rs_nil fun _ => ?_
      refine th_n ?_
      refine aw_block ?_
      refine aw_fam (α := Nat × Nat) (fun a => a.2) (fun a => [(6, ints l), (7, iv (l.length : Int)), (8, iv (((k) : Nat) : Int)), (3, iv (a.1 : Int)), (5, iv (a.2 : Int))]) (fun a => []) (fun a => Nat.gcd a.1 a.2 = gL (l.take (k + 1))) (gL (l.take k), x.natAbs) ((gL_succ hx).symm)
        (weak_to (.cons rfl (rc_same rfl (.inl rfl)) (.cons rfl (rc_same rfl (.inl rfl)) (.cons rfl (rc_same rfl (.inl rfl)) (.cons rfl (rc_same rfl (.inl rfl)) (.cons rfl (rc_same rfl (.inl rfl)) (.nil)))))) (.nil) (fun i h => by cases h)) ?_
      rintro ⟨g, n⟩ hg
      dsimp only at hg ⊢
      refine aw_seq ?_
      refine aw_seq ?_
      refine aw_reg ?_
      refine rs_mv rfl rfl ?_
      refine rs_gtr rfl rfl rfl ?_
      refine rs_nil fun _ => ?_
      refine th_n ?_
      refine aw_cond rfl (fun h17 => ?_) (fun h17 => ?_)
      · replace h17 := of_decide_eq_true h17
        refine aw_skip ?_
        refine th_n ?_
        refine aw_block ?_
        refine aw_draw hmix ?_
        refine rs_mv rfl rfl ?_
        refine rs_mv rfl rfl ?_
        refine rs_mv rfl rfl ?_
        refine rs_rem rfl rfl rfl (by omega) (tmod_nat g n) ?_
        refine rs_mv rfl rfl ?_
        refine rs_mv rfl rfl ?_
        refine rs_nil ⟨by kernel_rfl, fun _ => ?_⟩
        refine in_n ?_
        refine th_n ?_
        exact ⟨(n, g % n), by rw [← hg]; exact gcd_step g n, Nat.mod_lt _ (by omega), weak_to (.cons rfl (rc_same rfl (.inl rfl)) (.cons rfl (rc_same rfl (.inl rfl)) (.cons rfl (rc_same rfl (.inl rfl)) (.cons rfl (rc_same rfl (.inl rfl)) (.cons rfl (rc_same rfl (.inl rfl)) (.nil)))))) (.nil) (fun i h => by cases h)⟩
      · replace h17 := of_decide_eq_false h17
        refine aw_exit ?_
        refine th_e ?_
        refine th_e ?_
        refine in_hit ?_
        refine in_n ?_
        refine th_n ?_
        refine aw_reg ?_
        refine rs_add rfl rfl rfl (by omega) ?_
        refine rs_mv rfl rfl ?_
        refine rs_nil fun _ => ?_
        refine th_n ?_
        have hn0 : n = 0 := by omega
        rw [hn0, Nat.gcd_zero_right] at hg
        subst hg
        exact ⟨k + 1, by omega, by omega, weak_to (.cons rfl (rc_same rfl (.inl rfl)) (.cons rfl (rc_same rfl (.inl rfl)) (.cons rfl (rc_same rfl (.inl rfl)) (.cons rfl (rc_same rfl (.inl rfl)) (.nil))))) (.nil) (fun i h => by cases h)⟩
  · replace h9 := of_decide_eq_false h9
    refine aw_exit ?_
    refine th_e ?_
    refine th_e ?_
    refine in_hit ?_
    refine th_n ?_
    refine aw_seq ?_
    refine aw_reg ?_
    refine rs_mv rfl rfl ?_
    refine rs_mv rfl rfl ?_
    refine rs_nil fun _ => ?_
    refine th_n ?_
    refine aw_ret ?_
    (have hk2 : k = l.length := by omega
     rw [hk2, List.take_length]; exact ret_pure rfl rfl rfl (.inr rfl))

def mc29 : MC := (.seq (.reg [⟨(some 1), (.box 26 3 (.t 0)), none, []⟩, ⟨(some 2), (.alloc 26 3 [(.int .i64 0), (.int .i64 0), (.int .i64 0)]), none, []⟩, ⟨(some 3), (.mv (.c (.int .i64 0))), none, []⟩] false) (.seq (.reg [⟨(some 5), (.fa 0 (.t 1)), none, []⟩, ⟨(some 6), (.ld false 1 (.t 5)), none, [0]⟩, ⟨(some 7), (.fa 1 (.t 1)), none, []⟩, ⟨(some 8), (.ld false 1 (.t 7)), none, [2]⟩, ⟨(some 9), (.fa 2 (.t 1)), none, []⟩, ⟨(some 10), (.ld false 1 (.t 9)), none, [4]⟩, ⟨(some 11), (.bslice 3 1 [(.int .i64 0)] 3 [(0, (.t 6)), (1, (.t 8)), (2, (.t 10))]), none, [1, 3, 5]⟩, ⟨(some 12), (.call 77 [(.t 11)]), none, [6]⟩, ⟨(some 4), (.mv (.t 12)), none, [7, 7, 0, 1, 2, 3, 4, 5, 6, 7]⟩] false) (.seq (.seq (.reg [⟨(some 13), (.mv (.t 4)), none, []⟩, ⟨(some 14), (.bin .eql (.t 13) (.c (.int .i64 0))), none, [0]⟩] false) (.cond (.t 14) (.seq (.reg [⟨(some 15), (.build [(.int .i64 0), (.int .i64 0), (.int .i64 0)] []), none, []⟩, ⟨none, (.st 3 (.t 2) (.t 15)), none, [0, 0]⟩, ⟨(some 3), (.mv (.c (.int .i64 0))), none, [1, 0, 1]⟩] false) .ret) .skip)) (.seq (.reg [⟨(some 16), (.fa 0 (.t 1)), none, []⟩, ⟨(some 17), (.ld false 1 (.t 16)), none, [0]⟩, ⟨(some 18), (.mv (.t 4)), none, []⟩, ⟨(some 19), (.bin .quo (.t 17) (.t 18)), none, [1, 2]⟩, ⟨(some 20), (.fa 1 (.t 1)), none, []⟩, ⟨(some 21), (.ld false 1 (.t 20)), none, [4]⟩, ⟨(some 22), (.mv (.t 4)), none, []⟩, ⟨(some 23), (.bin .quo (.t 21) (.t 22)), none, [5, 6]⟩, ⟨(some 24), (.fa 2 (.t 1)), none, []⟩, ⟨(some 25), (.ld false 1 (.t 24)), none, [8]⟩, ⟨(some 26), (.mv (.t 4)), none, []⟩, ⟨(some 27), (.bin .quo (.t 25) (.t 26)), none, [9, 10]⟩, ⟨(some 28), (.build [(.int .i64 0), (.int .i64 0), (.int .i64 0)] [(0, (1, (.t 19))), (1, (1, (.t 23))), (2, (1, (.t 27)))]), none, [3, 7, 11]⟩, ⟨(some 29), (.mv (.t 4)), none, []⟩, ⟨none, (.st 3 (.t 2) (.t 28)), none, [12, 0, 1, 2, 3, 4, 5, 6, 7, 8, 9, 10, 11, 12]⟩, ⟨(some 3), (.mv (.t 29)), none, [13, 14, 0, 1, 2, 3, 4, 5, 6, 7, 8, 9, 10, 11, 12, 13, 14]⟩] true) .ret))))
theorem mcOk29 : (match Tryd.f74.body with | some c => compC Tryd.prog 30 c | none => none) = some mc29 := by kernel_rfl

theorem fc29 (v : V3) (hb : Bd 1000000 v) : FC Tryd.prog 74 [aV v] [] (.tup [aV (primV v), iv (gS v : Int)]) [] false := by
  refine fc_run (nt := 30) Tryd.func74 rfl rfl mcOk29 (Nat.le_of_ble_eq_true rfl) ?_
  delta mc29
  refine aw_seq ?_
  refine aw_reg ?_
  refine rs_box rfl rfl rfl rfl rfl rfl ?_
  refine rs_alloc rfl rfl rfl ?_
  refine rs_mv rfl rfl ?_
  refine rs_nil fun _ => ?_
  refine th_n ?_
  refine aw_seq ?_
  refine aw_reg ?_
  refine rs_fa_p rfl rfl ?_
  refine rs_ld_p rfl rfl rfl rfl rfl ?_
  refine rs_fa_p rfl rfl ?_
  refine rs_ld_p rfl rfl rfl rfl rfl ?_
  refine rs_fa_p rfl rfl ?_
  refine rs_ld_p rfl rfl rfl rfl rfl ?_
  refine rs_bslice rfl rfl rfl rfl rfl rfl ?_
  refine rs_calln [11] rfl rfl (fc46 [v.x, v.y, v.z] (fun x hx => by have := hb.x; have := hb.y; have := hb.z; simp at hx; rcases hx with rfl | rfl | rfl <;> assumption) (Nat.le_of_ble_eq_true rfl)) (.cons (hv_sl (by simp) rfl (Nat.le_of_ble_eq_true rfl) rfl) (.nil)) rfl ?_
  refine rs_mv rfl rfl ?_
  refine rs_nil fun _ => ?_
  refine th_n ?_
  refine aw_seq ?_
  refine aw_seq ?_
  refine aw_reg ?_
  refine rs_mv rfl rfl ?_
  refine rs_eql rfl rfl rfl ?_
  refine rs_nil fun _ => ?_
  refine th_n ?_
  refine aw_cond rfl (fun h14 => ?_) (fun h14 => ?_)
  · replace h14 := of_decide_eq_true h14
    have hg0 : gS v = 0 := by have : (gL [v.x, v.y, v.z] : Int) = 0 := h14; unfold gS; omega
    rw [show primV v = ⟨0, 0, 0⟩ from if_pos hg0, hg0]
    refine aw_seq ?_
    refine aw_reg ?_
    refine rs_build rfl rfl ?_
    refine rs_st rfl rfl rfl rfl rfl rfl rfl (Nat.le_of_ble_eq_true rfl) rfl rfl ?_
    refine rs_mv rfl rfl ?_
    refine rs_nil fun _ => ?_
    refine th_n ?_
    refine aw_ret ?_
    refine th_r ?_
    exact ret_pure rfl rfl rfl (.inr rfl)
  · replace h14 := of_decide_eq_false h14
    have hg0 : gS v ≠ 0 := fun e => h14 (by unfold gS at e; rw [e]; rfl)
    rw [show primV v = ⟨v.x.tdiv (gS v), v.y.tdiv (gS v), v.z.tdiv (gS v)⟩ from if_neg hg0]
    have hg1 : ((gL [v.x, v.y, v.z] : Nat) : Int) ≠ 0 := by unfold gS at hg0; omega
    refine aw_skip ?_
    refine th_n ?_
    refine aw_seq ?_
    refine aw_draw hmix ?_
    refine rs_fa_p rfl rfl ?_
    refine rs_ld_p rfl rfl rfl rfl rfl ?_
    refine rs_mv rfl rfl ?_
    refine rs_quow rfl rfl rfl hg1 (tdivW hb.x) ?_
    refine rs_fa_p rfl rfl ?_
    refine rs_ld_p rfl rfl rfl rfl rfl ?_
    refine rs_mv rfl rfl ?_
    refine rs_quow rfl rfl rfl hg1 (tdivW hb.y) ?_
    refine rs_fa_p rfl rfl ?_
    refine rs_ld_p rfl rfl rfl rfl rfl ?_
    refine rs_mv rfl rfl ?_
    refine rs_quow rfl rfl rfl hg1 (tdivW hb.z) ?_
    refine rs_build rfl rfl ?_
    refine rs_mv rfl rfl ?_
    refine rs_st rfl rfl rfl rfl rfl rfl rfl (Nat.le_of_ble_eq_true rfl) rfl rfl ?_
    refine rs_mv rfl rfl ?_
    refine rs_nil ⟨by kernel_rfl, fun _ => ?_⟩
    refine th_n ?_
    refine aw_ret ?_
    exact ret_pure rfl rfl rfl (.inr rfl)

def mc49 : MC := (.seq (.reg [⟨(some 4), (.mv (.c (.bool false))), none, []⟩] false) (.seq (.seq (.reg [⟨(some 7), (.mv (.t 1)), none, []⟩, ⟨(some 8), (.len (.t 7)), none, [0]⟩, ⟨(some 9), (.mv (.c (.int .i64 0))), none, []⟩] false) (.block 0 (.loop (.seq (.reg [⟨(some 10), (.bin .lss (.t 9) (.t 8)), none, []⟩] false) (.seq (.cond (.t 10) .skip (.exit 0)) (.seq (.block 1 (.seq (.reg [⟨(some 11), (.ixsl 1 (.t 7) (.t 9)), none, []⟩, ⟨(some 12), (.ld false 1 (.t 11)), none, [0]⟩, ⟨(some 6), (.mv (.t 12)), none, [1, 0, 1]⟩] false) (.seq (.reg [⟨(some 13), (.mv (.t 6)), none, []⟩, ⟨(some 14), (.mv (.t 0)), none, []⟩, ⟨(some 15), (.un .neg (.t 14)), none, [1]⟩, ⟨(some 16), (.bin .lss (.t 13) (.t 15)), none, [0, 2]⟩, ⟨(some 17), (.mv (.t 16)), none, [3]⟩, ⟨(some 18), (.mv (.t 6)), (some (17, false)), [4]⟩, ⟨(some 19), (.mv (.t 0)), (some (17, false)), [4]⟩, ⟨(some 20), (.bin .gtr (.t 18) (.t 19)), (some (17, false)), [5, 6, 4]⟩, ⟨(some 21), (.pick (.t 17) (.c (.bool true)) (.t 20)), none, [4, 7]⟩] false) (.cond (.t 21) (.seq (.reg [⟨(some 4), (.mv (.c (.bool false))), none, []⟩] false) .ret) .skip)))) (.reg [⟨(some 22), (.bin .add (.t 9) (.c (.int .i64 1))), none, []⟩, ⟨(some 9), (.mv (.t 22)), none, [0]⟩] false))))))) (.seq (.reg [⟨(some 4), (.mv (.c (.bool true))), none, []⟩] false) .ret)))
theorem mcOk49 : (match Tryd.f38.body with | some c => compC Tryd.prog 23 c | none => none) = some mc49 := by kernel_rfl

theorem fc49 (m : Int) (l : List Int) (hm : 0 ≤ m ∧ m ≤ 1000000) (hn : l.length ≤ 1000) : FC Tryd.prog 38 [iv m, ints l] [] (.bool (withinS m l)) [] false := by
  refine fc_run (nt := 23) Tryd.func38 rfl rfl mcOk49 (Nat.le_of_ble_eq_true rfl) ?_
  delta mc49
  refine aw_seq ?_
  refine aw_reg ?_
  refine rs_mv rfl rfl ?_
  refine rs_nil fun _ => ?_
  refine th_n ?_
  refine aw_seq ?_
  refine aw_seq ?_
  refine aw_reg ?_
  refine rs_mv rfl rfl ?_
  refine rs_len_m rfl rfl ?_
  refine rs_mv rfl rfl ?_
  refine rs_nil fun _ => ?_
  refine th_n ?_
  refine aw_block ?_
  refine aw_fam (α := Nat) (fun k => l.length - k) (fun k => [(0, iv m), (7, ints l), (8, iv (l.length : Int)), (9, iv (((k) : Nat) : Int))]) (fun k => []) (fun k => k ≤ l.length ∧ ∀ j n, j < k → l[j]? = some n → -m ≤ n ∧ n ≤ m) 0 (⟨by omega, fun j n h => by omega⟩)
    (weak_to (.cons rfl (rc_same rfl (.inl rfl)) (.cons rfl (rc_same rfl (.inl rfl)) (.cons rfl (rc_same rfl (.inl rfl)) (.cons rfl (rc_same rfl (.inl rfl)) (.nil))))) (.nil) (fun i h => by cases h)) ?_
  rintro k ⟨hk, hall⟩
  refine aw_seq ?_
  refine aw_reg ?_
  refine rs_lss rfl rfl rfl ?_
  refine rs_nil fun _ => ?_
  refine th_n ?_
  refine aw_seq ?_
  refine aw_cond rfl (fun h10 => ?_) (fun h10 => ?_)
  · replace h10 := of_decide_eq_true h10
    refine aw_skip ?_
    refine th_n ?_
    refine aw_seq ?_
    refine aw_block ?_
    refine aw_seq ?_
    refine aw_reg ?_
    obtain ⟨x, hx, hxm⟩ := at_some (L := l) (k := k) (by omega)
    refine rs_ix_g rfl rfl rfl (by omega) hx ?_
    refine rs_ld_r rfl rfl rfl ?_
    refine rs_mv rfl rfl ?_
    refine rs_nil fun _ => ?_
    refine th_n ?_
    refine aw_seq ?_
    refine aw_reg ?_
    refine rs_mv rfl rfl ?_
    refine rs_mv rfl rfl ?_
    refine rs_neg rfl rfl (by omega) ?_
    refine rs_cmp rfl rfl rfl rfl (fun h16 => ?_) (fun h16 => ?_)
    · skip
      refine rs_mv rfl rfl ?_
      refine rs_skip rfl ?_
      refine rs_skip rfl ?_
      refine rs_skip rfl ?_
      refine rs_pick rfl rfl rfl ?_
      refine rs_nil fun _ => ?_
      refine th_n ?_
      refine aw_cond rfl (fun _ => ?_) (fun h => by cases h)
      refine aw_seq ?_
      refine aw_reg ?_
      refine rs_mv rfl rfl ?_
      refine rs_nil fun _ => ?_
      refine th_n ?_
      refine aw_ret ?_
      refine in_r ?_
      refine th_r ?_
      refine th_r ?_
      refine in_r ?_
      refine th_r ?_
      exact ret_pure rfl (congrArg AV.bool ((within_f hx (by omega)).symm)) rfl (.inr rfl)
    · skip
      refine rs_mv rfl rfl ?_
      refine rs_mv rfl rfl ?_
      refine rs_mv rfl rfl ?_
      refine rs_cmp rfl rfl rfl rfl (fun h20 => ?_) (fun h20 => ?_)
      · skip
        refine rs_pick rfl rfl rfl ?_
        refine rs_nil fun _ => ?_
        refine th_n ?_
        refine aw_cond rfl (fun _ => ?_) (fun h => by cases h)
        refine aw_seq ?_
        refine aw_reg ?_
        refine rs_mv rfl rfl ?_
        refine rs_nil fun _ => ?_
        refine th_n ?_
        refine aw_ret ?_
        refine in_r ?_
        refine th_r ?_
        refine th_r ?_
        refine in_r ?_
        refine th_r ?_
        exact ret_pure rfl (congrArg AV.bool ((within_f hx (by omega)).symm)) rfl (.inr rfl)
      · skip
        refine rs_pick rfl rfl rfl ?_
        refine rs_nil fun _ => ?_
        refine th_n ?_
        refine aw_cond rfl (fun h => by cases h) (fun _ => ?_)
        refine aw_skip ?_
        refine in_n ?_
        refine th_n ?_
        refine aw_reg ?_
        refine rs_add rfl rfl rfl (by omega) ?_
        refine rs_mv rfl rfl ?_
        refine rs_nil fun _ => ?_
        refine th_n ?_
        exact ⟨k + 1, ⟨by omega, fun j n hj hjn => by
          by_cases e : j = k
          · subst e; rw [hx] at hjn; injection hjn with hjn; subst hjn; omega
          · exact hall j n (by omega) hjn⟩, by omega, weak_to (.cons rfl (rc_same rfl (.inl rfl)) (.cons rfl (rc_same rfl (.inl rfl)) (.cons rfl (rc_same rfl (.inl rfl)) (.cons rfl (rc_same rfl (.inl rfl)) (.nil))))) (.nil) (fun i h => by cases h)⟩
  · replace h10 := of_decide_eq_false h10
    refine aw_exit ?_
    refine th_e ?_
    refine th_e ?_
    refine in_hit ?_
    refine th_n ?_
    refine aw_seq ?_
    refine aw_reg ?_
    refine rs_mv rfl rfl ?_
    refine rs_nil fun _ => ?_
    refine th_n ?_
    refine aw_ret ?_
    exact ret_pure rfl (congrArg AV.bool ((within_t fun j n hj => hall j n (by have := lt_of_at hj; omega) hj).symm)) rfl (.inr rfl)

def mc40 : MC := (.seq (.reg [⟨(some 1), (.box 26 3 (.t 0)), none, []⟩, ⟨(some 2), (.mv (.c (.bool false))), none, []⟩] false) (.seq (.reg [⟨(some 3), (.fa 0 (.t 1)), none, []⟩, ⟨(some 4), (.ld false 1 (.t 3)), none, [0]⟩, ⟨(some 5), (.fa 1 (.t 1)), none, []⟩, ⟨(some 6), (.ld false 1 (.t 5)), none, [2]⟩, ⟨(some 7), (.fa 2 (.t 1)), none, []⟩, ⟨(some 8), (.ld false 1 (.t 7)), none, [4]⟩, ⟨(some 9), (.bslice 3 1 [(.int .i64 0)] 3 [(0, (.t 4)), (1, (.t 6)), (2, (.t 8))]), none, [1, 3, 5]⟩, ⟨(some 10), (.call 38 [(.c (.int .i64 24)), (.t 9)]), none, [6]⟩, ⟨(some 2), (.mv (.t 10)), none, [7, 7, 0, 1, 2, 3, 4, 5, 6, 7]⟩] false) .ret))
theorem mcOk40 : (match Tryd.f26.body with | some c => compC Tryd.prog 11 c | none => none) = some mc40 := by kernel_rfl

theorem fc40 (v : V3) : FC Tryd.prog 26 [aV v] [] (.bool (inS v)) [] false := by
  refine fc_run (nt := 11) Tryd.func26 rfl rfl mcOk40 (Nat.le_of_ble_eq_true rfl) ?_
  delta mc40
  refine aw_seq ?_
  refine aw_reg ?_
  refine rs_box rfl rfl rfl rfl rfl rfl ?_
  refine rs_mv rfl rfl ?_
  refine rs_nil fun _ => ?_
  refine th_n ?_
  refine aw_seq ?_
  refine aw_reg ?_
  refine rs_fa_p rfl rfl ?_
  refine rs_ld_p rfl rfl rfl rfl rfl ?_
  refine rs_fa_p rfl rfl ?_
  refine rs_ld_p rfl rfl rfl rfl rfl ?_
  refine rs_fa_p rfl rfl ?_
  refine rs_ld_p rfl rfl rfl rfl rfl ?_
  refine rs_bslice rfl rfl rfl rfl rfl rfl ?_
  refine rs_calln [9] rfl rfl (fc49 24 [v.x, v.y, v.z] (by omega) (Nat.le_of_ble_eq_true rfl)) (.cons (hv_same rfl) (.cons (hv_sl (by simp) rfl (Nat.le_of_ble_eq_true rfl) rfl) (.nil))) rfl ?_
  refine rs_mv rfl rfl ?_
  refine rs_nil fun _ => ?_
  refine th_n ?_
  refine aw_ret ?_
  exact ret_pure rfl rfl rfl (.inr rfl)

def mc84 : MC := (.seq (.reg [⟨(some 1), (.box 26 3 (.t 0)), none, []⟩, ⟨(some 2), (.mv (.c (.bool false))), none, []⟩] false) (.seq (.reg [⟨(some 3), (.ld true 3 (.t 1)), none, []⟩, ⟨(some 4), (.ld true 3 (.t 1)), none, []⟩, ⟨(some 5), (.call 23 [(.t 3), (.t 4)]), none, [0, 1]⟩, ⟨(some 6), (.bin .eql (.t 5) (.c (.int .i64 1))), none, [2]⟩, ⟨(some 2), (.mv (.t 6)), none, [3, 2, 0, 1, 2, 3]⟩] false) .ret))
theorem mcOk84 : (match Tryd.f84.body with | some c => compC Tryd.prog 7 c | none => none) = some mc84 := by kernel_rfl

theorem fc84 (v : V3) : FC Tryd.prog 84 [aV v] [] (.bool (decide (dotW v v = 1))) [] false := by
  refine fc_run (nt := 7) Tryd.func84 rfl rfl mcOk84 (Nat.le_of_ble_eq_true rfl) ?_
  delta mc84
  refine aw_seq ?_
  refine aw_reg ?_
  refine rs_box rfl rfl rfl rfl rfl rfl ?_
  refine rs_mv rfl rfl ?_
  refine rs_nil fun _ => ?_
  refine th_n ?_
  refine aw_seq ?_
  refine aw_reg ?_
  refine rs_ld_pa rfl rfl rfl rfl (Nat.le_of_ble_eq_true rfl) rfl ?_
  refine rs_ld_pa rfl rfl rfl rfl (Nat.le_of_ble_eq_true rfl) rfl ?_
  refine rs_calln [] rfl rfl (fc30 v v) (.cons (hv_same rfl) (.cons (hv_same rfl) (.nil))) rfl ?_
  refine rs_eql rfl rfl rfl ?_
  refine rs_mv rfl rfl ?_
  refine rs_nil fun _ => ?_
  refine th_n ?_
  refine aw_ret ?_
  exact ret_pure rfl rfl rfl (.inr rfl)

end Go.Proofs.YteommcdafifckaaDoor

/-! Walks: M1. -/
namespace Go.Proofs.YteommcdafifckaaDoor
open Go.RowKit
set_option maxRecDepth 100000

section
variable {a b : V3}
theorem fc27s (ha : Bd 1000000 a) (hb : Bd 1000000 b) : FC Tryd.prog 22 [aV a, aV b] [] (aV (sub a b)) [] false := by rw [← subW_eq ha hb]; exact fc27 a b
theorem fc28s (ha : Bd 1000000 a) (hb : Bd 1000000 b) : FC Tryd.prog 29 [aV a, aV b] [] (aV (add a b)) [] false := by rw [← addW_eq ha hb]; exact fc28 a b
theorem fc30s (ha : Bd 1000000 a) (hb : Bd 1000000 b) : FC Tryd.prog 23 [aV a, aV b] [] (iv (dot a b)) [] false := by rw [← dotW_eq ha hb]; exact fc30 a b
theorem fc52s (ha : Bd 1000000 a) (hb : Bd 1000000 b) : FC Tryd.prog 40 [aV a, aV b] [] (iv (dot a b)) [] false := by rw [← dotW_eq ha hb]; exact fc52 a b
theorem fc31s (ha : Bd 1000000 a) (hb : Bd 1000000 b) : FC Tryd.prog 24 [aV a, aV b] [] (aV (cross a b)) [] false := by rw [← crossW_eq ha hb]; exact fc31 a b
theorem fc37s {n : Int} (ha : Bd 1000000 a) (hb : Bd 1000000 b) (hn : -1000000 ≤ n ∧ n ≤ 1000000) : FC Tryd.prog 20 [aV a, aV b, iv n] [] (aV (plus a b n)) [] false := by rw [← plusW_eq ha hb hn]; exact fc37 a b n
theorem fc78s {n : Int} (ha : Bd 1000000 a) (hb : Bd 1000000 b) (hn : -1000000 ≤ n ∧ n ≤ 1000000) : FC Tryd.prog 76 [aV a, aV b, iv n] [] (aV (plus a b n)) [] false := by rw [← plusW_eq ha hb hn]; exact fc78 a b n
theorem fc84s (ha : Bd 1000000 a) : FC Tryd.prog 84 [aV a] [] (.bool (decide (dot a a = 1))) [] false := by rw [← dotW_eq ha ha]; exact fc84 a
end
structure InM (m : Mv) : Prop where
  fr : Bd 24 m.fr
  to : Bd 24 m.to
  co : Bd 24 m.co
theorem inM_of {m : Mv} (h1 : (!inS m.fr) = false) (h2 : (!inS m.to) = false) (h3 : (!inS m.co) = false) : InM m := ⟨in_bd (by simpa using h1), in_bd (by simpa using h2), in_bd (by simpa using h3)⟩
def sA (m : Mv) : V3 := sub m.co m.to
def sB (m : Mv) : V3 := sub m.co m.fr
theorem InM.a {m : Mv} (h : InM m) : Bd 1000 (sA m) := (h.co.sub h.to).mono (by omega)
theorem InM.b {m : Mv} (h : InM m) : Bd 1000 (sB m) := (h.co.sub h.fr).mono (by omega)
theorem prim_bd {n : Int} {v : V3} (h : Bd n v) : Bd n (primV v) := by
  have := h.x; have := h.y; have := h.z
  have h1 := tdiv_le v.x (gS v); have h2 := tdiv_le v.y (gS v); have h3 := tdiv_le v.z (gS v)
  unfold primV
  split
  · exact ⟨by dsimp only; omega, by dsimp only; omega, by dsimp only; omega⟩
  · exact ⟨by dsimp only; omega, by dsimp only; omega, by dsimp only; omega⟩
theorem Bd.big {n : Int} {v : V3} (h : Bd n v) (hn : n ≤ 1000000 := by decide) : Bd 1000000 v := h.mono hn
def fitsA (m : Mv) : Bool := decide (dot (primV (sA m)) (primV (sA m)) = 1) && (decide (dot (primV (sB m)) (primV (sB m)) = 1) && (decide ((gS (sA m) : Int) = gS (sB m)) && decide (dot (primV (sA m)) (primV (sB m)) = 0)))
def fitsL (m : Mv) : Bool := (true != decide (m.fr = m.to)) && (false != decide (m.co = ⟨0, 0, 0⟩))
def rangeB (lo hi : Int) (m : Mv) : Bool := !inS m.fr || (!inS m.to || (!inS m.co || (decide (m.feed < lo) || decide (hi < m.feed))))
def checkS (m : Mv) : Int := if m.kind = 1 then (if rangeB 0 0 m = true then 3 else if fitsL m = true then 0 else 16) else if m.kind = 2 then (if rangeB 1 100 m = true then 3 else if fitsL m = true then 0 else 16)
  else if m.kind = 3 then (if rangeB 1 100 m = true then 3 else if fitsA m = true then 0 else 16) else 16
def quarterS (m : Mv) : Bool := decide (lenS (sub m.fr m.co) ≥ 1) && (decide (lenS (sub m.fr m.co) = lenS (sub m.to m.co)) && decide (dot (sub m.fr m.co) (sub m.to m.co) = 0))
def feedR (m : Mv) : Bool := (decide (m.kind = 1) && decide (m.feed ≠ 0)) || (decide (m.kind ≠ 1) && (decide (m.feed < 1) || decide (100 < m.feed)))
def lastR (m : Mv) : Bool := (false != decide (m.fr = m.to)) || ((decide (m.kind ≠ 3) && (true != decide (m.co = ⟨0, 0, 0⟩))) || (decide (m.kind = 3) && !quarterS m))
def checkR (m : Mv) : Int := if m.kind < 1 ∨ 3 < m.kind then 16 else if (!inS m.fr || (!inS m.to || !inS m.co)) = true then 3 else if feedR m = true then 3 else if lastR m = true then 16 else 0

def mc83 : MC := (.seq (.reg [⟨(some 1), (.box 88 11 (.t 0)), none, []⟩, ⟨(some 2), (.alloc 26 3 [(.int .i64 0), (.int .i64 0), (.int .i64 0)]), none, []⟩, ⟨(some 3), (.alloc 26 3 [(.int .i64 0), (.int .i64 0), (.int .i64 0)]), none, []⟩, ⟨(some 4), (.mv (.c (.int .i64 0))), none, []⟩, ⟨(some 5), (.mv (.c (.int .i64 0))), none, [3]⟩] false) (.seq (.reg [⟨(some 7), (.fa 0 (.t 1)), none, []⟩, ⟨(some 8), (.fa 7 (.t 7)), none, [0]⟩, ⟨(some 9), (.ld true 3 (.t 8)), none, [1]⟩, ⟨(some 10), (.fa 0 (.t 1)), none, []⟩, ⟨(some 11), (.fa 4 (.t 10)), none, [3]⟩, ⟨(some 12), (.ld true 3 (.t 11)), none, [4]⟩, ⟨(some 13), (.call 22 [(.t 9), (.t 12)]), none, [2, 5]⟩, ⟨(some 14), (.call 74 [(.t 13)]), none, [6, 6]⟩, ⟨(some 6), (.mv (.t 14)), none, [7]⟩, ⟨(some 15), (.ext (.t 6) 0), none, [8]⟩, ⟨(some 16), (.ext (.t 6) 1), none, [8]⟩, ⟨none, (.st 3 (.t 2) (.t 15)), none, [9, 7, 0, 1, 2, 3, 4, 5, 6, 7, 8, 9]⟩, ⟨(some 4), (.mv (.t 16)), none, [10, 11, 0, 1, 2, 3, 4, 5, 6, 7, 8, 9, 10, 11]⟩] false) (.seq (.reg [⟨(some 18), (.fa 0 (.t 1)), none, []⟩, ⟨(some 19), (.fa 7 (.t 18)), none, [0]⟩, ⟨(some 20), (.ld true 3 (.t 19)), none, [1]⟩, ⟨(some 21), (.fa 0 (.t 1)), none, []⟩, ⟨(some 22), (.fa 1 (.t 21)), none, [3]⟩, ⟨(some 23), (.ld true 3 (.t 22)), none, [4]⟩, ⟨(some 24), (.call 22 [(.t 20), (.t 23)]), none, [2, 5]⟩, ⟨(some 25), (.call 74 [(.t 24)]), none, [6, 6]⟩, ⟨(some 17), (.mv (.t 25)), none, [7]⟩, ⟨(some 26), (.ext (.t 17) 0), none, [8]⟩, ⟨(some 27), (.ext (.t 17) 1), none, [8]⟩, ⟨none, (.st 3 (.t 3) (.t 26)), none, [9, 7, 0, 1, 2, 3, 4, 5, 6, 7, 8, 9]⟩, ⟨(some 5), (.mv (.t 27)), none, [10, 11, 0, 1, 2, 3, 4, 5, 6, 7, 8, 9, 10, 11]⟩] false) (.seq (.reg [⟨(some 28), (.ld true 3 (.t 2)), none, []⟩, ⟨(some 29), (.ld true 3 (.t 3)), none, []⟩, ⟨(some 30), (.mv (.t 4)), none, []⟩, ⟨(some 31), (.mv (.t 5)), none, []⟩, ⟨none, (.st 3 (.t 2) (.t 28)), none, [0, 0]⟩, ⟨none, (.st 3 (.t 3) (.t 29)), none, [1, 4, 0, 1, 4]⟩, ⟨(some 4), (.mv (.t 30)), none, [2, 5, 0, 1, 2, 4, 5]⟩, ⟨(some 5), (.mv (.t 31)), none, [3, 6, 0, 1, 2, 3, 4, 5, 6]⟩] true) .ret))))
theorem mcOk83 : (match Tryd.f83.body with | some c => compC Tryd.prog 32 c | none => none) = some mc83 := by kernel_rfl

theorem fc83 (m : Mv) (h : InM m) : FC Tryd.prog 83 [aM m] [] (.tup [aV (primV (sA m)), aV (primV (sB m)), iv (gS (sA m) : Int), iv (gS (sB m) : Int)]) [] false := by
  refine fc_run (nt := 32) Tryd.func83 rfl rfl mcOk83 (Nat.le_of_ble_eq_true rfl) ?_
  delta mc83
  refine aw_seq ?_
  refine aw_reg ?_
  refine rs_box rfl rfl rfl rfl rfl rfl ?_
  refine rs_alloc rfl rfl rfl ?_
  refine rs_alloc rfl rfl rfl ?_
  refine rs_mv rfl rfl ?_
  refine rs_mv rfl rfl ?_
  refine rs_nil fun _ => ?_
  refine th_n ?_
  refine aw_seq ?_
  refine aw_reg ?_
  refine rs_fa_p rfl rfl ?_
  refine rs_fa_p rfl rfl ?_
  refine rs_ld_pa rfl rfl rfl rfl (Nat.le_of_ble_eq_true rfl) rfl ?_
  refine rs_fa_p rfl rfl ?_
  refine rs_fa_p rfl rfl ?_
  refine rs_ld_pa rfl rfl rfl rfl (Nat.le_of_ble_eq_true rfl) rfl ?_
  refine rs_calln [] rfl rfl (fc27s h.co.big h.to.big) (.cons (hv_same rfl) (.cons (hv_same rfl) (.nil))) rfl ?_
  refine rs_calln [] rfl rfl (fc29 (sA m) h.a.big) (.cons (hv_same rfl) (.nil)) rfl ?_
  refine rs_mv rfl rfl ?_
  refine rs_ext rfl rfl rfl ?_
  refine rs_ext rfl rfl rfl ?_
  refine rs_st rfl rfl rfl rfl rfl rfl rfl (Nat.le_of_ble_eq_true rfl) rfl rfl ?_
  refine rs_mv rfl rfl ?_
  refine rs_nil fun _ => ?_
  refine th_n ?_
  refine aw_seq ?_
  refine aw_reg ?_
  refine rs_fa_p rfl rfl ?_
  refine rs_fa_p rfl rfl ?_
  refine rs_ld_pa rfl rfl rfl rfl (Nat.le_of_ble_eq_true rfl) rfl ?_
  refine rs_fa_p rfl rfl ?_
  refine rs_fa_p rfl rfl ?_
  refine rs_ld_pa rfl rfl rfl rfl (Nat.le_of_ble_eq_true rfl) rfl ?_
  refine rs_calln [] rfl rfl (fc27s h.co.big h.fr.big) (.cons (hv_same rfl) (.cons (hv_same rfl) (.nil))) rfl ?_
  refine rs_calln [] rfl rfl (fc29 (sB m) h.b.big) (.cons (hv_same rfl) (.nil)) rfl ?_
  refine rs_mv rfl rfl ?_
  refine rs_ext rfl rfl rfl ?_
  refine rs_ext rfl rfl rfl ?_
  refine rs_st rfl rfl rfl rfl rfl rfl rfl (Nat.le_of_ble_eq_true rfl) rfl rfl ?_
  refine rs_mv rfl rfl ?_
  refine rs_nil fun _ => ?_
  refine th_n ?_
  refine aw_seq ?_
  refine aw_draw hmix ?_
  refine rs_ld_pa rfl rfl rfl rfl (Nat.le_of_ble_eq_true rfl) rfl ?_
  refine rs_ld_pa rfl rfl rfl rfl (Nat.le_of_ble_eq_true rfl) rfl ?_
  refine rs_mv rfl rfl ?_
  refine rs_mv rfl rfl ?_
  refine rs_st rfl rfl rfl rfl rfl rfl rfl (Nat.le_of_ble_eq_true rfl) rfl rfl ?_
  refine rs_st rfl rfl rfl rfl rfl rfl rfl (Nat.le_of_ble_eq_true rfl) rfl rfl ?_
  refine rs_mv rfl rfl ?_
  refine rs_mv rfl rfl ?_
  refine rs_nil ⟨by kernel_rfl, fun _ => ?_⟩
  refine th_n ?_
  refine aw_ret ?_
  exact ret_pure rfl rfl rfl (.inr rfl)

def mc79 : MC := (.seq (.reg [⟨(some 1), (.box 88 11 (.t 0)), none, []⟩, ⟨(some 2), (.mv (.c (.bool false))), none, []⟩] false) (.seq (.reg [⟨(some 8), (.ld true 11 (.t 1)), none, []⟩, ⟨(some 9), (.call 83 [(.t 8)]), none, [0]⟩, ⟨(some 7), (.mv (.t 9)), none, [1]⟩, ⟨(some 10), (.ext (.t 7) 0), none, [2]⟩, ⟨(some 11), (.ext (.t 7) 1), none, [2]⟩, ⟨(some 12), (.ext (.t 7) 2), none, [2]⟩, ⟨(some 13), (.ext (.t 7) 3), none, [2]⟩, ⟨(some 3), (.alloc 26 3 [(.int .i64 0), (.int .i64 0), (.int .i64 0)]), none, []⟩, ⟨(some 4), (.alloc 26 3 [(.int .i64 0), (.int .i64 0), (.int .i64 0)]), none, []⟩, ⟨none, (.st 3 (.t 3) (.t 10)), none, [7, 3, 1, 0, 1, 2, 3, 7, 8]⟩, ⟨none, (.st 3 (.t 4) (.t 11)), none, [8, 4, 9, 0, 1, 2, 3, 4, 7, 8, 9]⟩, ⟨(some 5), (.mv (.t 12)), none, [5, 10, 0, 1, 2, 3, 4, 5, 7, 8, 9, 10]⟩, ⟨(some 6), (.mv (.t 13)), none, [6, 11, 0, 1, 2, 3, 4, 5, 6, 7, 8, 9, 10, 11]⟩] false) (.seq (.reg [⟨(some 14), (.ld true 3 (.t 3)), none, []⟩, ⟨(some 15), (.call 84 [(.t 14)]), none, [0]⟩, ⟨(some 16), (.mv (.t 15)), none, [1, 1]⟩, ⟨(some 17), (.ld true 3 (.t 4)), (some (16, true)), [2]⟩, ⟨(some 18), (.call 84 [(.t 17)]), (some (16, true)), [3, 2, 2]⟩, ⟨(some 19), (.pick (.t 16) (.t 18) (.c (.bool false))), none, [2, 4]⟩, ⟨(some 20), (.mv (.t 19)), none, [5, 4]⟩, ⟨(some 21), (.mv (.t 5)), (some (20, true)), [6]⟩, ⟨(some 22), (.mv (.t 6)), (some (20, true)), [6]⟩, ⟨(some 23), (.bin .eql (.t 21) (.t 22)), (some (20, true)), [7, 8, 6]⟩, ⟨(some 24), (.pick (.t 20) (.t 23) (.c (.bool false))), none, [6, 9]⟩, ⟨(some 25), (.mv (.t 24)), none, [10, 6]⟩, ⟨(some 26), (.ld true 3 (.t 3)), (some (25, true)), [11]⟩, ⟨(some 27), (.ld true 3 (.t 4)), (some (25, true)), [11]⟩, ⟨(some 28), (.call 23 [(.t 26), (.t 27)]), (some (25, true)), [12, 13, 11, 11]⟩, ⟨(some 29), (.bin .eql (.t 28) (.c (.int .i64 0))), (some (25, true)), [14, 11]⟩, ⟨(some 30), (.pick (.t 25) (.t 29) (.c (.bool false))), none, [11, 15]⟩, ⟨(some 2), (.mv (.t 30)), none, [16, 14, 0, 1, 2, 3, 4, 5, 6, 7, 8, 9, 10, 11, 12, 13, 14, 15, 16]⟩] false) .ret)))
theorem mcOk79 : (match Tryd.f79.body with | some c => compC Tryd.prog 31 c | none => none) = some mc79 := by kernel_rfl

theorem fc79 (m : Mv) (h : InM m) : FC Tryd.prog 79 [aM m] [] (.bool (fitsA m)) [] false := by
  refine fc_run (nt := 31) Tryd.func79 rfl rfl mcOk79 (Nat.le_of_ble_eq_true rfl) ?_
  delta mc79
  refine aw_seq ?_
  refine aw_reg ?_
  refine rs_box rfl rfl rfl rfl rfl rfl ?_
  refine rs_mv rfl rfl ?_
  refine rs_nil fun _ => ?_
  refine th_n ?_
  refine aw_seq ?_
  refine aw_reg ?_
  refine rs_ld_pa rfl rfl rfl rfl (Nat.le_of_ble_eq_true rfl) rfl ?_
  refine rs_calln [] rfl rfl (fc83 m h) (.cons (hv_same rfl) (.nil)) rfl ?_
  refine rs_mv rfl rfl ?_
  refine rs_ext rfl rfl rfl ?_
  refine rs_ext rfl rfl rfl ?_
  refine rs_ext rfl rfl rfl ?_
  refine rs_ext rfl rfl rfl ?_
  refine rs_alloc rfl rfl rfl ?_
  refine rs_alloc rfl rfl rfl ?_
  refine rs_st rfl rfl rfl rfl rfl rfl rfl (Nat.le_of_ble_eq_true rfl) rfl rfl ?_
  refine rs_st rfl rfl rfl rfl rfl rfl rfl (Nat.le_of_ble_eq_true rfl) rfl rfl ?_
  refine rs_mv rfl rfl ?_
  refine rs_mv rfl rfl ?_
  refine rs_nil fun _ => ?_
  refine th_n ?_
  refine aw_seq ?_
  refine aw_reg ?_
  refine rs_ld_pa rfl rfl rfl rfl (Nat.le_of_ble_eq_true rfl) rfl ?_
  refine rs_calln [] rfl rfl (fc84s (prim_bd h.a).big) (.cons (hv_same rfl) (.nil)) rfl ?_
  refine rs_mv rfl rfl ?_
  cases h16 : decide (dot (primV (sA m)) (primV (sA m)) = 1)
  · skip
    refine rs_skip rfl ?_
    refine rs_skip rfl ?_
    refine rs_pick rfl rfl rfl ?_
    refine rs_mv rfl rfl ?_
    refine rs_skip rfl ?_
    refine rs_skip rfl ?_
    refine rs_skip rfl ?_
    refine rs_pick rfl rfl rfl ?_
    refine rs_mv rfl rfl ?_
    refine rs_skip rfl ?_
    refine rs_skip rfl ?_
    refine rs_skip rfl ?_
    refine rs_skip rfl ?_
    refine rs_pick rfl rfl rfl ?_
    refine rs_mv rfl rfl ?_
    refine rs_nil fun _ => ?_
    refine th_n ?_
    refine aw_ret ?_
    exact ret_pure rfl (congrArg AV.bool (by simp_all [fitsA])) rfl (.inr rfl)
  · skip
    refine rs_ld_pa rfl rfl rfl rfl (Nat.le_of_ble_eq_true rfl) rfl ?_
    refine rs_calln [] rfl rfl (fc84s (prim_bd h.b).big) (.cons (hv_same rfl) (.nil)) rfl ?_
    cases h18 : decide (dot (primV (sB m)) (primV (sB m)) = 1)
    · skip
      refine rs_pick rfl rfl rfl ?_
      refine rs_mv rfl rfl ?_
      refine rs_skip rfl ?_
      refine rs_skip rfl ?_
      refine rs_skip rfl ?_
      refine rs_pick rfl rfl rfl ?_
      refine rs_mv rfl rfl ?_
      refine rs_skip rfl ?_
      refine rs_skip rfl ?_
      refine rs_skip rfl ?_
      refine rs_skip rfl ?_
      refine rs_pick rfl rfl rfl ?_
      refine rs_mv rfl rfl ?_
      refine rs_nil fun _ => ?_
      refine th_n ?_
      refine aw_ret ?_
      exact ret_pure rfl (congrArg AV.bool (by simp_all [fitsA])) rfl (.inr rfl)
    · skip
      refine rs_pick rfl rfl rfl ?_
      refine rs_mv rfl rfl ?_
      refine rs_mv rfl rfl ?_
      refine rs_mv rfl rfl ?_
      refine rs_cmp rfl rfl rfl rfl (fun h23 => ?_) (fun h23 => ?_)
      · skip
        refine rs_pick rfl rfl rfl ?_
        refine rs_mv rfl rfl ?_
        refine rs_ld_pa rfl rfl rfl rfl (Nat.le_of_ble_eq_true rfl) rfl ?_
        refine rs_ld_pa rfl rfl rfl rfl (Nat.le_of_ble_eq_true rfl) rfl ?_
        refine rs_calln [] rfl rfl (fc30s (prim_bd h.a).big (prim_bd h.b).big) (.cons (hv_same rfl) (.cons (hv_same rfl) (.nil))) rfl ?_
        refine rs_cmp rfl rfl rfl rfl (fun h29 => ?_) (fun h29 => ?_)
        · skip
          refine rs_pick rfl rfl rfl ?_
          refine rs_mv rfl rfl ?_
          refine rs_nil fun _ => ?_
          refine th_n ?_
          refine aw_ret ?_
          exact ret_pure rfl (congrArg AV.bool (by simp_all [fitsA])) rfl (.inr rfl)
        · skip
          refine rs_pick rfl rfl rfl ?_
          refine rs_mv rfl rfl ?_
          refine rs_nil fun _ => ?_
          refine th_n ?_
          refine aw_ret ?_
          exact ret_pure rfl (congrArg AV.bool (by simp_all [fitsA])) rfl (.inr rfl)
      · skip
        refine rs_pick rfl rfl rfl ?_
        refine rs_mv rfl rfl ?_
        refine rs_skip rfl ?_
        refine rs_skip rfl ?_
        refine rs_skip rfl ?_
        refine rs_skip rfl ?_
        refine rs_pick rfl rfl rfl ?_
        refine rs_mv rfl rfl ?_
        refine rs_nil fun _ => ?_
        refine th_n ?_
        refine aw_ret ?_
        exact ret_pure rfl (congrArg AV.bool (by simp_all [fitsA])) rfl (.inr rfl)

def mc73 : MC := (.seq (.reg [⟨(some 1), (.box 87 11 (.t 0)), none, []⟩, ⟨(some 2), (.mv (.c (.bool false))), none, []⟩] false) (.seq (.reg [⟨(some 3), (.fa 0 (.t 1)), none, []⟩, ⟨(some 4), (.fa 1 (.t 3)), none, [0]⟩, ⟨(some 5), (.ld true 3 (.t 4)), none, [1]⟩, ⟨(some 6), (.fa 0 (.t 1)), none, []⟩, ⟨(some 7), (.fa 4 (.t 6)), none, [3]⟩, ⟨(some 8), (.ld true 3 (.t 7)), none, [4]⟩, ⟨(some 9), (.aeq true 3 (.t 5) (.t 8)), none, [2, 5]⟩, ⟨(some 10), (.mv (.t 9)), none, [6]⟩, ⟨(some 11), (.fa 0 (.t 1)), (some (10, true)), [7]⟩, ⟨(some 12), (.fa 7 (.t 11)), (some (10, true)), [8, 7]⟩, ⟨(some 13), (.ld true 3 (.t 12)), (some (10, true)), [9, 7]⟩, ⟨(some 14), (.build [(.int .i64 0), (.int .i64 0), (.int .i64 0)] []), (some (10, true)), [7]⟩, ⟨(some 15), (.aeq false 3 (.t 13) (.t 14)), (some (10, true)), [10, 11, 7]⟩, ⟨(some 16), (.pick (.t 10) (.t 15) (.c (.bool false))), none, [7, 12]⟩, ⟨(some 2), (.mv (.t 16)), none, [13, 7, 0, 1, 2, 3, 4, 5, 6, 7, 8, 9, 10, 11, 12, 13]⟩] false) .ret))
theorem mcOk73 : (match Tryd.f70.body with | some c => compC Tryd.prog 17 c | none => none) = some mc73 := by kernel_rfl

theorem fc73 (m : Mv) : FC Tryd.prog 70 [aM m] [] (.bool (fitsL m)) [] false := by
  refine fc_run (nt := 17) Tryd.func70 rfl rfl mcOk73 (Nat.le_of_ble_eq_true rfl) ?_
  delta mc73
  refine aw_seq ?_
  refine aw_reg ?_
  refine rs_box rfl rfl rfl rfl rfl rfl ?_
  refine rs_mv rfl rfl ?_
  refine rs_nil fun _ => ?_
  refine th_n ?_
  refine aw_seq ?_
  refine aw_reg ?_
  refine rs_fa_p rfl rfl ?_
  refine rs_fa_p rfl rfl ?_
  refine rs_ld_pa rfl rfl rfl rfl (Nat.le_of_ble_eq_true rfl) rfl ?_
  refine rs_fa_p rfl rfl ?_
  refine rs_fa_p rfl rfl ?_
  refine rs_ld_pa rfl rfl rfl rfl (Nat.le_of_ble_eq_true rfl) rfl ?_
  refine rs_aeqv rfl rfl rfl ?_
  cases h9 : (true != decide (m.fr = m.to))
  · skip
    refine rs_mv rfl rfl ?_
    refine rs_skip rfl ?_
    refine rs_skip rfl ?_
    refine rs_skip rfl ?_
    refine rs_skip rfl ?_
    refine rs_skip rfl ?_
    refine rs_pick rfl rfl rfl ?_
    refine rs_mv rfl rfl ?_
    refine rs_nil fun _ => ?_
    refine th_n ?_
    refine aw_ret ?_
    exact ret_pure rfl (congrArg AV.bool (by simp_all [fitsL])) rfl (.inr rfl)
  · skip
    refine rs_mv rfl rfl ?_
    refine rs_fa_p rfl rfl ?_
    refine rs_fa_p rfl rfl ?_
    refine rs_ld_pa rfl rfl rfl rfl (Nat.le_of_ble_eq_true rfl) rfl ?_
    refine rs_build rfl rfl ?_
    refine rs_aeqv (v := ⟨0, 0, 0⟩) rfl rfl rfl ?_
    refine rs_pick rfl rfl rfl ?_
    refine rs_mv rfl rfl ?_
    refine rs_nil fun _ => ?_
    refine th_n ?_
    refine aw_ret ?_
    exact ret_pure rfl (congrArg AV.bool (by simp_all [fitsL])) rfl (.inr rfl)

def mc39 : MC := (.seq (.reg [⟨(some 1), (.box 28 11 (.t 0)), none, []⟩, ⟨(some 2), (.mv (.c .nili)), none, []⟩] false) (.seq (.seq (.reg [⟨(some 3), (.fa 0 (.t 1)), none, []⟩, ⟨(some 4), (.ld false 1 (.t 3)), none, [0]⟩] false) (.block 0 (.seq (.seq (.reg [⟨(some 6), (.bin .eql (.t 4) (.c (.int .i64 1))), none, []⟩, ⟨(some 5), (.mv (.t 6)), none, [0]⟩] false) (.cond (.t 5) .skip (.reg [⟨(some 7), (.bin .eql (.t 4) (.c (.int .i64 2))), none, []⟩, ⟨(some 5), (.mv (.t 7)), none, [0]⟩] false))) (.cond (.t 5) (.seq (.reg [⟨(some 8), (.ld true 11 (.t 1)), none, []⟩, ⟨(some 9), (.build [(.int .i64 0), (.int .i64 0), (.int .i64 0), (.int .i64 0), (.int .i64 0), (.int .i64 0), (.int .i64 0), (.int .i64 0), (.int .i64 0), (.int .i64 0), (.int .i64 0)] [(0, (11, (.t 8)))]), none, [0]⟩, ⟨(some 10), (.mkif 87 (.t 9)), none, [1]⟩, ⟨(some 2), (.mv (.t 10)), none, [2, 0, 1, 2]⟩] false) .ret) (.seq (.reg [⟨(some 12), (.bin .eql (.t 4) (.c (.int .i64 3))), none, []⟩, ⟨(some 11), (.mv (.t 12)), none, [0]⟩] false) (.cond (.t 11) (.seq (.reg [⟨(some 13), (.ld true 11 (.t 1)), none, []⟩, ⟨(some 14), (.build [(.int .i64 0), (.int .i64 0), (.int .i64 0), (.int .i64 0), (.int .i64 0), (.int .i64 0), (.int .i64 0), (.int .i64 0), (.int .i64 0), (.int .i64 0), (.int .i64 0)] [(0, (11, (.t 13)))]), none, [0]⟩, ⟨(some 15), (.mkif 88 (.t 14)), none, [1]⟩, ⟨(some 2), (.mv (.t 15)), none, [2, 0, 1, 2]⟩] false) .ret) .skip)))))) (.seq (.reg [⟨(some 2), (.mv (.c .nili)), none, []⟩] false) .ret)))
theorem mcOk39 : (match Tryd.f33.body with | some c => compC Tryd.prog 16 c | none => none) = some mc39 := by kernel_rfl

theorem fc39_l (m : Mv) (hk : m.kind = 1 ∨ m.kind = 2) : FC Tryd.prog 33 [aM m] [] (.ifc 87 (aM m)) [] false := by
  refine fc_run (nt := 16) Tryd.func33 rfl rfl mcOk39 (Nat.le_of_ble_eq_true rfl) ?_
  delta mc39
  refine aw_seq ?_
  refine aw_reg ?_
  refine rs_box rfl rfl rfl rfl rfl rfl ?_
  refine rs_mv rfl rfl ?_
  refine rs_nil fun _ => ?_
  refine th_n ?_
  refine aw_seq ?_
  refine aw_seq ?_
  refine aw_reg ?_
  refine rs_fa_p rfl rfl ?_
  refine rs_ld_p rfl rfl rfl rfl rfl ?_
  refine rs_nil fun _ => ?_
  refine th_n ?_
  refine aw_block ?_
  refine aw_seq ?_
  refine aw_seq ?_
  refine aw_reg ?_
  refine rs_eql rfl rfl rfl ?_
  refine rs_mv rfl rfl ?_
  refine rs_nil fun _ => ?_
  refine th_n ?_
  refine aw_cond rfl (fun h5 => ?_) (fun h5 => ?_)
  · replace h5 := of_decide_eq_true h5
    refine aw_skip ?_
    refine th_n ?_
    refine aw_cond rfl (fun h5 => ?_) (fun h5 => ?_)
    · replace h5 := of_decide_eq_true h5
      refine aw_seq ?_
      refine aw_reg ?_
      refine rs_ld_pa rfl rfl rfl rfl (Nat.le_of_ble_eq_true rfl) rfl ?_
      refine rs_build rfl rfl ?_
      refine rs_mkif rfl rfl rfl ?_
      refine rs_mv rfl rfl ?_
      refine rs_nil fun _ => ?_
      refine th_n ?_
      refine aw_ret ?_
      refine in_r ?_
      refine th_r ?_
      exact ret_pure rfl rfl rfl (.inr rfl)
    · replace h5 := of_decide_eq_false h5
      refine aw_seq ?_
      refine aw_reg ?_
      refine rs_eql rfl rfl rfl ?_
      refine rs_mv rfl rfl ?_
      refine rs_nil fun _ => ?_
      refine th_n ?_
      refine aw_cond rfl (fun h11 => ?_) (fun h11 => ?_)
      · replace h11 := of_decide_eq_true h11
        refine aw_seq ?_
        refine aw_reg ?_
        refine rs_ld_pa rfl rfl rfl rfl (Nat.le_of_ble_eq_true rfl) rfl ?_
        refine rs_build rfl rfl ?_
        refine rs_mkif rfl rfl rfl ?_
        refine rs_mv rfl rfl ?_
        refine rs_nil fun _ => ?_
        refine th_n ?_
        refine aw_ret ?_
        refine in_r ?_
        refine th_r ?_
        (exfalso; omega)
      · replace h11 := of_decide_eq_false h11
        refine aw_skip ?_
        refine in_n ?_
        refine th_n ?_
        refine aw_seq ?_
        refine aw_reg ?_
        refine rs_mv rfl rfl ?_
        refine rs_nil fun _ => ?_
        refine th_n ?_
        refine aw_ret ?_
        (exfalso; omega)
  · replace h5 := of_decide_eq_false h5
    refine aw_reg ?_
    refine rs_eql rfl rfl rfl ?_
    refine rs_mv rfl rfl ?_
    refine rs_nil fun _ => ?_
    refine th_n ?_
    refine aw_cond rfl (fun h5 => ?_) (fun h5 => ?_)
    · replace h5 := of_decide_eq_true h5
      refine aw_seq ?_
      refine aw_reg ?_
      refine rs_ld_pa rfl rfl rfl rfl (Nat.le_of_ble_eq_true rfl) rfl ?_
      refine rs_build rfl rfl ?_
      refine rs_mkif rfl rfl rfl ?_
      refine rs_mv rfl rfl ?_
      refine rs_nil fun _ => ?_
      refine th_n ?_
      refine aw_ret ?_
      refine in_r ?_
      refine th_r ?_
      exact ret_pure rfl rfl rfl (.inr rfl)
    · replace h5 := of_decide_eq_false h5
      refine aw_seq ?_
      refine aw_reg ?_
      refine rs_eql rfl rfl rfl ?_
      refine rs_mv rfl rfl ?_
      refine rs_nil fun _ => ?_
      refine th_n ?_
      refine aw_cond rfl (fun h11 => ?_) (fun h11 => ?_)
      · replace h11 := of_decide_eq_true h11
        refine aw_seq ?_
        refine aw_reg ?_
        refine rs_ld_pa rfl rfl rfl rfl (Nat.le_of_ble_eq_true rfl) rfl ?_
        refine rs_build rfl rfl ?_
        refine rs_mkif rfl rfl rfl ?_
        refine rs_mv rfl rfl ?_
        refine rs_nil fun _ => ?_
        refine th_n ?_
        refine aw_ret ?_
        refine in_r ?_
        refine th_r ?_
        (exfalso; omega)
      · replace h11 := of_decide_eq_false h11
        refine aw_skip ?_
        refine in_n ?_
        refine th_n ?_
        refine aw_seq ?_
        refine aw_reg ?_
        refine rs_mv rfl rfl ?_
        refine rs_nil fun _ => ?_
        refine th_n ?_
        refine aw_ret ?_
        (exfalso; omega)

theorem fc39_a (m : Mv) (hk : m.kind = 3) : FC Tryd.prog 33 [aM m] [] (.ifc 88 (aM m)) [] false := by
  refine fc_run (nt := 16) Tryd.func33 rfl rfl mcOk39 (Nat.le_of_ble_eq_true rfl) ?_
  delta mc39
  refine aw_seq ?_
  refine aw_reg ?_
  refine rs_box rfl rfl rfl rfl rfl rfl ?_
  refine rs_mv rfl rfl ?_
  refine rs_nil fun _ => ?_
  refine th_n ?_
  refine aw_seq ?_
  refine aw_seq ?_
  refine aw_reg ?_
  refine rs_fa_p rfl rfl ?_
  refine rs_ld_p rfl rfl rfl rfl rfl ?_
  refine rs_nil fun _ => ?_
  refine th_n ?_
  refine aw_block ?_
  refine aw_seq ?_
  refine aw_seq ?_
  refine aw_reg ?_
  refine rs_eql rfl rfl rfl ?_
  refine rs_mv rfl rfl ?_
  refine rs_nil fun _ => ?_
  refine th_n ?_
  refine aw_cond rfl (fun h5 => ?_) (fun h5 => ?_)
  · replace h5 := of_decide_eq_true h5
    refine aw_skip ?_
    refine th_n ?_
    refine aw_cond rfl (fun h5 => ?_) (fun h5 => ?_)
    · replace h5 := of_decide_eq_true h5
      refine aw_seq ?_
      refine aw_reg ?_
      refine rs_ld_pa rfl rfl rfl rfl (Nat.le_of_ble_eq_true rfl) rfl ?_
      refine rs_build rfl rfl ?_
      refine rs_mkif rfl rfl rfl ?_
      refine rs_mv rfl rfl ?_
      refine rs_nil fun _ => ?_
      refine th_n ?_
      refine aw_ret ?_
      refine in_r ?_
      refine th_r ?_
      (exfalso; omega)
    · replace h5 := of_decide_eq_false h5
      refine aw_seq ?_
      refine aw_reg ?_
      refine rs_eql rfl rfl rfl ?_
      refine rs_mv rfl rfl ?_
      refine rs_nil fun _ => ?_
      refine th_n ?_
      refine aw_cond rfl (fun h11 => ?_) (fun h11 => ?_)
      · replace h11 := of_decide_eq_true h11
        refine aw_seq ?_
        refine aw_reg ?_
        refine rs_ld_pa rfl rfl rfl rfl (Nat.le_of_ble_eq_true rfl) rfl ?_
        refine rs_build rfl rfl ?_
        refine rs_mkif rfl rfl rfl ?_
        refine rs_mv rfl rfl ?_
        refine rs_nil fun _ => ?_
        refine th_n ?_
        refine aw_ret ?_
        refine in_r ?_
        refine th_r ?_
        exact ret_pure rfl rfl rfl (.inr rfl)
      · replace h11 := of_decide_eq_false h11
        refine aw_skip ?_
        refine in_n ?_
        refine th_n ?_
        refine aw_seq ?_
        refine aw_reg ?_
        refine rs_mv rfl rfl ?_
        refine rs_nil fun _ => ?_
        refine th_n ?_
        refine aw_ret ?_
        (exfalso; omega)
  · replace h5 := of_decide_eq_false h5
    refine aw_reg ?_
    refine rs_eql rfl rfl rfl ?_
    refine rs_mv rfl rfl ?_
    refine rs_nil fun _ => ?_
    refine th_n ?_
    refine aw_cond rfl (fun h5 => ?_) (fun h5 => ?_)
    · replace h5 := of_decide_eq_true h5
      refine aw_seq ?_
      refine aw_reg ?_
      refine rs_ld_pa rfl rfl rfl rfl (Nat.le_of_ble_eq_true rfl) rfl ?_
      refine rs_build rfl rfl ?_
      refine rs_mkif rfl rfl rfl ?_
      refine rs_mv rfl rfl ?_
      refine rs_nil fun _ => ?_
      refine th_n ?_
      refine aw_ret ?_
      refine in_r ?_
      refine th_r ?_
      (exfalso; omega)
    · replace h5 := of_decide_eq_false h5
      refine aw_seq ?_
      refine aw_reg ?_
      refine rs_eql rfl rfl rfl ?_
      refine rs_mv rfl rfl ?_
      refine rs_nil fun _ => ?_
      refine th_n ?_
      refine aw_cond rfl (fun h11 => ?_) (fun h11 => ?_)
      · replace h11 := of_decide_eq_true h11
        refine aw_seq ?_
        refine aw_reg ?_
        refine rs_ld_pa rfl rfl rfl rfl (Nat.le_of_ble_eq_true rfl) rfl ?_
        refine rs_build rfl rfl ?_
        refine rs_mkif rfl rfl rfl ?_
        refine rs_mv rfl rfl ?_
        refine rs_nil fun _ => ?_
        refine th_n ?_
        refine aw_ret ?_
        refine in_r ?_
        refine th_r ?_
        exact ret_pure rfl rfl rfl (.inr rfl)
      · replace h11 := of_decide_eq_false h11
        refine aw_skip ?_
        refine in_n ?_
        refine th_n ?_
        refine aw_seq ?_
        refine aw_reg ?_
        refine rs_mv rfl rfl ?_
        refine rs_nil fun _ => ?_
        refine th_n ?_
        refine aw_ret ?_
        (exfalso; omega)

theorem fc39_n (m : Mv) (hk : ¬ m.kind = 1 ∧ ¬ m.kind = 2 ∧ ¬ m.kind = 3) : FC Tryd.prog 33 [aM m] [] (.nili) [] false := by
  refine fc_run (nt := 16) Tryd.func33 rfl rfl mcOk39 (Nat.le_of_ble_eq_true rfl) ?_
  delta mc39
  refine aw_seq ?_
  refine aw_reg ?_
  refine rs_box rfl rfl rfl rfl rfl rfl ?_
  refine rs_mv rfl rfl ?_
  refine rs_nil fun _ => ?_
  refine th_n ?_
  refine aw_seq ?_
  refine aw_seq ?_
  refine aw_reg ?_
  refine rs_fa_p rfl rfl ?_
  refine rs_ld_p rfl rfl rfl rfl rfl ?_
  refine rs_nil fun _ => ?_
  refine th_n ?_
  refine aw_block ?_
  refine aw_seq ?_
  refine aw_seq ?_
  refine aw_reg ?_
  refine rs_eql rfl rfl rfl ?_
  refine rs_mv rfl rfl ?_
  refine rs_nil fun _ => ?_
  refine th_n ?_
  refine aw_cond rfl (fun h5 => ?_) (fun h5 => ?_)
  · replace h5 := of_decide_eq_true h5
    refine aw_skip ?_
    refine th_n ?_
    refine aw_cond rfl (fun h5 => ?_) (fun h5 => ?_)
    · replace h5 := of_decide_eq_true h5
      refine aw_seq ?_
      refine aw_reg ?_
      refine rs_ld_pa rfl rfl rfl rfl (Nat.le_of_ble_eq_true rfl) rfl ?_
      refine rs_build rfl rfl ?_
      refine rs_mkif rfl rfl rfl ?_
      refine rs_mv rfl rfl ?_
      refine rs_nil fun _ => ?_
      refine th_n ?_
      refine aw_ret ?_
      refine in_r ?_
      refine th_r ?_
      (exfalso; omega)
    · replace h5 := of_decide_eq_false h5
      refine aw_seq ?_
      refine aw_reg ?_
      refine rs_eql rfl rfl rfl ?_
      refine rs_mv rfl rfl ?_
      refine rs_nil fun _ => ?_
      refine th_n ?_
      refine aw_cond rfl (fun h11 => ?_) (fun h11 => ?_)
      · replace h11 := of_decide_eq_true h11
        refine aw_seq ?_
        refine aw_reg ?_
        refine rs_ld_pa rfl rfl rfl rfl (Nat.le_of_ble_eq_true rfl) rfl ?_
        refine rs_build rfl rfl ?_
        refine rs_mkif rfl rfl rfl ?_
        refine rs_mv rfl rfl ?_
        refine rs_nil fun _ => ?_
        refine th_n ?_
        refine aw_ret ?_
        refine in_r ?_
        refine th_r ?_
        (exfalso; omega)
      · replace h11 := of_decide_eq_false h11
        refine aw_skip ?_
        refine in_n ?_
        refine th_n ?_
        refine aw_seq ?_
        refine aw_reg ?_
        refine rs_mv rfl rfl ?_
        refine rs_nil fun _ => ?_
        refine th_n ?_
        refine aw_ret ?_
        exact ret_pure rfl rfl rfl (.inr rfl)
  · replace h5 := of_decide_eq_false h5
    refine aw_reg ?_
    refine rs_eql rfl rfl rfl ?_
    refine rs_mv rfl rfl ?_
    refine rs_nil fun _ => ?_
    refine th_n ?_
    refine aw_cond rfl (fun h5 => ?_) (fun h5 => ?_)
    · replace h5 := of_decide_eq_true h5
      refine aw_seq ?_
      refine aw_reg ?_
      refine rs_ld_pa rfl rfl rfl rfl (Nat.le_of_ble_eq_true rfl) rfl ?_
      refine rs_build rfl rfl ?_
      refine rs_mkif rfl rfl rfl ?_
      refine rs_mv rfl rfl ?_
      refine rs_nil fun _ => ?_
      refine th_n ?_
      refine aw_ret ?_
      refine in_r ?_
      refine th_r ?_
      (exfalso; omega)
    · replace h5 := of_decide_eq_false h5
      refine aw_seq ?_
      refine aw_reg ?_
      refine rs_eql rfl rfl rfl ?_
      refine rs_mv rfl rfl ?_
      refine rs_nil fun _ => ?_
      refine th_n ?_
      refine aw_cond rfl (fun h11 => ?_) (fun h11 => ?_)
      · replace h11 := of_decide_eq_true h11
        refine aw_seq ?_
        refine aw_reg ?_
        refine rs_ld_pa rfl rfl rfl rfl (Nat.le_of_ble_eq_true rfl) rfl ?_
        refine rs_build rfl rfl ?_
        refine rs_mkif rfl rfl rfl ?_
        refine rs_mv rfl rfl ?_
        refine rs_nil fun _ => ?_
        refine th_n ?_
        refine aw_ret ?_
        refine in_r ?_
        refine th_r ?_
        (exfalso; omega)
      · replace h11 := of_decide_eq_false h11
        refine aw_skip ?_
        refine in_n ?_
        refine th_n ?_
        refine aw_seq ?_
        refine aw_reg ?_
        refine rs_mv rfl rfl ?_
        refine rs_nil fun _ => ?_
        refine th_n ?_
        refine aw_ret ?_
        exact ret_pure rfl rfl rfl (.inr rfl)

def mc12 : MC := (.seq (.reg [⟨(some 1), (.box 28 11 (.t 0)), none, []⟩, ⟨(some 2), (.mv (.c (.int .i64 0))), none, []⟩] false) (.seq (.reg [⟨(some 6), (.ld true 11 (.t 1)), none, []⟩, ⟨(some 7), (.call 33 [(.t 6)]), none, [0]⟩, ⟨(some 3), (.mv (.t 7)), none, [1, 1, 0, 1]⟩] false) (.seq (.reg [⟨(some 4), (.mv (.c (.int .i64 1))), none, []⟩, ⟨(some 5), (.mv (.c (.int .i64 100))), none, [0, 0]⟩] false) (.seq (.seq (.reg [⟨(some 8), (.fa 0 (.t 1)), none, []⟩, ⟨(some 9), (.ld false 1 (.t 8)), none, [0]⟩, ⟨(some 10), (.bin .eql (.t 9) (.c (.int .i64 1))), none, [1]⟩] false) (.cond (.t 10) (.reg [⟨(some 4), (.mv (.c (.int .i64 0))), none, []⟩, ⟨(some 5), (.mv (.c (.int .i64 0))), none, [0, 0]⟩] false) .skip)) (.seq (.block 0 (.seq (.reg [⟨(some 12), (.mv (.t 3)), none, []⟩, ⟨(some 13), (.ifnil false (.t 12)), none, [0]⟩, ⟨(some 11), (.mv (.t 13)), none, [1]⟩] false) (.cond (.t 11) (.seq (.reg [⟨(some 2), (.mv (.c (.int .i64 16))), none, []⟩] false) .ret) (.seq (.reg [⟨(some 15), (.fa 1 (.t 1)), none, []⟩, ⟨(some 16), (.ld true 3 (.t 15)), none, [0]⟩, ⟨(some 17), (.call 26 [(.t 16)]), none, [1]⟩, ⟨(some 18), (.un .not (.t 17)), none, [2]⟩, ⟨(some 19), (.mv (.t 18)), none, [3, 2]⟩, ⟨(some 20), (.fa 4 (.t 1)), (some (19, false)), [4]⟩, ⟨(some 21), (.ld true 3 (.t 20)), (some (19, false)), [5, 4]⟩, ⟨(some 22), (.call 26 [(.t 21)]), (some (19, false)), [6, 4, 4]⟩, ⟨(some 23), (.un .not (.t 22)), (some (19, false)), [7, 4]⟩, ⟨(some 24), (.pick (.t 19) (.c (.bool true)) (.t 23)), none, [4, 8]⟩, ⟨(some 25), (.mv (.t 24)), none, [9, 7]⟩, ⟨(some 26), (.fa 7 (.t 1)), (some (25, false)), [10]⟩, ⟨(some 27), (.ld true 3 (.t 26)), (some (25, false)), [11, 10]⟩, ⟨(some 28), (.call 26 [(.t 27)]), (some (25, false)), [12, 10, 10]⟩, ⟨(some 29), (.un .not (.t 28)), (some (25, false)), [13, 10]⟩, ⟨(some 30), (.pick (.t 25) (.c (.bool true)) (.t 29)), none, [10, 14]⟩, ⟨(some 31), (.mv (.t 30)), none, [15, 13]⟩, ⟨(some 32), (.fa 10 (.t 1)), (some (31, false)), [16]⟩, ⟨(some 33), (.ld false 1 (.t 32)), (some (31, false)), [17, 16]⟩, ⟨(some 34), (.mv (.t 4)), (some (31, false)), [16]⟩, ⟨(some 35), (.bin .lss (.t 33) (.t 34)), (some (31, false)), [18, 19, 16]⟩, ⟨(some 36), (.pick (.t 31) (.c (.bool true)) (.t 35)), none, [16, 20]⟩, ⟨(some 37), (.mv (.t 36)), none, [21, 16]⟩, ⟨(some 38), (.fa 10 (.t 1)), (some (37, false)), [22]⟩, ⟨(some 39), (.ld false 1 (.t 38)), (some (37, false)), [23, 22]⟩, ⟨(some 40), (.mv (.t 5)), (some (37, false)), [22]⟩, ⟨(some 41), (.bin .gtr (.t 39) (.t 40)), (some (37, false)), [24, 25, 22]⟩, ⟨(some 42), (.pick (.t 37) (.c (.bool true)) (.t 41)), none, [22, 26]⟩, ⟨(some 14), (.mv (.t 42)), none, [27, 22]⟩] false) (.cond (.t 14) (.seq (.reg [⟨(some 2), (.mv (.c (.int .i64 3))), none, []⟩] false) .ret) (.seq (.reg [⟨(some 44), (.mv (.t 3)), none, []⟩, ⟨(some 45), (.inv "collet/move.fits" (.t 44) []), none, [0]⟩, ⟨(some 46), (.un .not (.t 45)), none, [1]⟩, ⟨(some 43), (.mv (.t 46)), none, [2, 1]⟩] false) (.cond (.t 43) (.seq (.reg [⟨(some 2), (.mv (.c (.int .i64 16))), none, []⟩] false) .ret) .skip))))))) (.seq (.reg [⟨(some 2), (.mv (.c (.int .i64 0))), none, []⟩] false) .ret))))))
theorem mcOk12 : (match Tryd.f17.body with | some c => compC Tryd.prog 47 c | none => none) = some mc12 := by kernel_rfl

theorem fc12_l (m : Mv) (hk : m.kind = 1 ∨ m.kind = 2) : FC Tryd.prog 17 [aM m] [] (iv (checkS m)) [] false := by
  refine fc_run (nt := 47) Tryd.func17 rfl rfl mcOk12 (Nat.le_of_ble_eq_true rfl) ?_
  delta mc12
  refine aw_seq ?_
  refine aw_reg ?_
  refine rs_box rfl rfl rfl rfl rfl rfl ?_
  refine rs_mv rfl rfl ?_
  refine rs_nil fun _ => ?_
  refine th_n ?_
  refine aw_seq ?_
  refine aw_reg ?_
  refine rs_ld_pa rfl rfl rfl rfl (Nat.le_of_ble_eq_true rfl) rfl ?_
  refine rs_calln [] rfl rfl (fc39_l m hk) (.cons (hv_same rfl) (.nil)) rfl ?_
  refine rs_mv rfl rfl ?_
  refine rs_nil fun _ => ?_
  refine th_n ?_
  refine aw_seq ?_
  refine aw_reg ?_
  refine rs_mv rfl rfl ?_
  refine rs_mv rfl rfl ?_
  refine rs_nil fun _ => ?_
  refine th_n ?_
  refine aw_seq ?_
  refine aw_seq ?_
  refine aw_reg ?_
  refine rs_fa_p rfl rfl ?_
  refine rs_ld_p rfl rfl rfl rfl rfl ?_
  refine rs_eql rfl rfl rfl ?_
  refine rs_nil fun _ => ?_
  refine th_n ?_
  refine aw_cond rfl (fun h10 => ?_) (fun h10 => ?_)
  · replace h10 := of_decide_eq_true h10
    refine aw_reg ?_
    refine rs_mv rfl rfl ?_
    refine rs_mv rfl rfl ?_
    refine rs_nil fun _ => ?_
    refine th_n ?_
    refine aw_seq ?_
    refine aw_block ?_
    refine aw_seq ?_
    refine aw_reg ?_
    refine rs_mv rfl rfl ?_
    refine rs_ifnil_i rfl rfl ?_
    refine rs_mv rfl rfl ?_
    refine rs_nil fun _ => ?_
    refine th_n ?_
    refine aw_cond rfl (fun h => by cases h) (fun _ => ?_)
    refine aw_seq ?_
    refine aw_reg ?_
    refine rs_fa_p rfl rfl ?_
    refine rs_ld_pa rfl rfl rfl rfl (Nat.le_of_ble_eq_true rfl) rfl ?_
    refine rs_calln [] rfl rfl (fc40 m.fr) (.cons (hv_same rfl) (.nil)) rfl ?_
    refine rs_not rfl rfl ?_
    refine rs_mv rfl rfl ?_
    cases h19 : !inS m.fr
    · skip
      refine rs_fa_p rfl rfl ?_
      refine rs_ld_pa rfl rfl rfl rfl (Nat.le_of_ble_eq_true rfl) rfl ?_
      refine rs_calln [] rfl rfl (fc40 m.to) (.cons (hv_same rfl) (.nil)) rfl ?_
      refine rs_not rfl rfl ?_
      cases h23 : !inS m.to
      · skip
        refine rs_pick rfl rfl rfl ?_
        refine rs_mv rfl rfl ?_
        refine rs_fa_p rfl rfl ?_
        refine rs_ld_pa rfl rfl rfl rfl (Nat.le_of_ble_eq_true rfl) rfl ?_
        refine rs_calln [] rfl rfl (fc40 m.co) (.cons (hv_same rfl) (.nil)) rfl ?_
        refine rs_not rfl rfl ?_
        cases h29 : !inS m.co
        · skip
          refine rs_pick rfl rfl rfl ?_
          refine rs_mv rfl rfl ?_
          refine rs_fa_p rfl rfl ?_
          refine rs_ld_p rfl rfl rfl rfl rfl ?_
          refine rs_mv rfl rfl ?_
          refine rs_cmp rfl rfl rfl rfl (fun h35 => ?_) (fun h35 => ?_)
          · skip
            refine rs_pick rfl rfl rfl ?_
            refine rs_mv rfl rfl ?_
            refine rs_skip rfl ?_
            refine rs_skip rfl ?_
            refine rs_skip rfl ?_
            refine rs_skip rfl ?_
            refine rs_pick rfl rfl rfl ?_
            refine rs_mv rfl rfl ?_
            refine rs_nil fun _ => ?_
            refine th_n ?_
            refine aw_cond rfl (fun _ => ?_) (fun h => by cases h)
            refine aw_seq ?_
            refine aw_reg ?_
            refine rs_mv rfl rfl ?_
            refine rs_nil fun _ => ?_
            refine th_n ?_
            refine aw_ret ?_
            refine in_r ?_
            refine th_r ?_
            exact ret_pure rfl (congrArg iv (by unfold checkS; simp_all [rangeB]; done)) rfl (.inr rfl)
          · skip
            refine rs_pick rfl rfl rfl ?_
            refine rs_mv rfl rfl ?_
            refine rs_fa_p rfl rfl ?_
            refine rs_ld_p rfl rfl rfl rfl rfl ?_
            refine rs_mv rfl rfl ?_
            refine rs_cmp rfl rfl rfl rfl (fun h41 => ?_) (fun h41 => ?_)
            · skip
              refine rs_pick rfl rfl rfl ?_
              refine rs_mv rfl rfl ?_
              refine rs_nil fun _ => ?_
              refine th_n ?_
              refine aw_cond rfl (fun _ => ?_) (fun h => by cases h)
              refine aw_seq ?_
              refine aw_reg ?_
              refine rs_mv rfl rfl ?_
              refine rs_nil fun _ => ?_
              refine th_n ?_
              refine aw_ret ?_
              refine in_r ?_
              refine th_r ?_
              exact ret_pure rfl (congrArg iv (by unfold checkS; simp_all [rangeB]; done)) rfl (.inr rfl)
            · skip
              refine rs_pick rfl rfl rfl ?_
              refine rs_mv rfl rfl ?_
              refine rs_nil fun _ => ?_
              refine th_n ?_
              refine aw_cond rfl (fun h => by cases h) (fun _ => ?_)
              refine aw_seq ?_
              refine aw_reg ?_
              refine rs_mv rfl rfl ?_
              refine rs_invn [] rfl rfl (by kernel_rfl) (by kernel_rfl) rfl (fc73 m) (.cons (hv_same rfl) (.nil)) rfl ?_
              refine rs_not rfl rfl ?_
              cases h46 : !fitsL m
              · skip
                refine rs_mv rfl rfl ?_
                refine rs_nil fun _ => ?_
                refine th_n ?_
                refine aw_cond rfl (fun h => by cases h) (fun _ => ?_)
                refine aw_skip ?_
                refine in_n ?_
                refine th_n ?_
                refine aw_seq ?_
                refine aw_reg ?_
                refine rs_mv rfl rfl ?_
                refine rs_nil fun _ => ?_
                refine th_n ?_
                refine aw_ret ?_
                exact ret_pure rfl (congrArg iv (by unfold checkS; simp_all [rangeB]; done)) rfl (.inr rfl)
              · skip
                refine rs_mv rfl rfl ?_
                refine rs_nil fun _ => ?_
                refine th_n ?_
                refine aw_cond rfl (fun _ => ?_) (fun h => by cases h)
                refine aw_seq ?_
                refine aw_reg ?_
                refine rs_mv rfl rfl ?_
                refine rs_nil fun _ => ?_
                refine th_n ?_
                refine aw_ret ?_
                refine in_r ?_
                refine th_r ?_
                exact ret_pure rfl (congrArg iv (by unfold checkS; simp_all [rangeB]; done)) rfl (.inr rfl)
        · skip
          refine rs_pick rfl rfl rfl ?_
          refine rs_mv rfl rfl ?_
          refine rs_skip rfl ?_
          refine rs_skip rfl ?_
          refine rs_skip rfl ?_
          refine rs_skip rfl ?_
          refine rs_pick rfl rfl rfl ?_
          refine rs_mv rfl rfl ?_
          refine rs_skip rfl ?_
          refine rs_skip rfl ?_
          refine rs_skip rfl ?_
          refine rs_skip rfl ?_
          refine rs_pick rfl rfl rfl ?_
          refine rs_mv rfl rfl ?_
          refine rs_nil fun _ => ?_
          refine th_n ?_
          refine aw_cond rfl (fun _ => ?_) (fun h => by cases h)
          refine aw_seq ?_
          refine aw_reg ?_
          refine rs_mv rfl rfl ?_
          refine rs_nil fun _ => ?_
          refine th_n ?_
          refine aw_ret ?_
          refine in_r ?_
          refine th_r ?_
          exact ret_pure rfl (congrArg iv (by unfold checkS; simp_all [rangeB]; done)) rfl (.inr rfl)
      · skip
        refine rs_pick rfl rfl rfl ?_
        refine rs_mv rfl rfl ?_
        refine rs_skip rfl ?_
        refine rs_skip rfl ?_
        refine rs_skip rfl ?_
        refine rs_skip rfl ?_
        refine rs_pick rfl rfl rfl ?_
        refine rs_mv rfl rfl ?_
        refine rs_skip rfl ?_
        refine rs_skip rfl ?_
        refine rs_skip rfl ?_
        refine rs_skip rfl ?_
        refine rs_pick rfl rfl rfl ?_
        refine rs_mv rfl rfl ?_
        refine rs_skip rfl ?_
        refine rs_skip rfl ?_
        refine rs_skip rfl ?_
        refine rs_skip rfl ?_
        refine rs_pick rfl rfl rfl ?_
        refine rs_mv rfl rfl ?_
        refine rs_nil fun _ => ?_
        refine th_n ?_
        refine aw_cond rfl (fun _ => ?_) (fun h => by cases h)
        refine aw_seq ?_
        refine aw_reg ?_
        refine rs_mv rfl rfl ?_
        refine rs_nil fun _ => ?_
        refine th_n ?_
        refine aw_ret ?_
        refine in_r ?_
        refine th_r ?_
        exact ret_pure rfl (congrArg iv (by unfold checkS; simp_all [rangeB]; done)) rfl (.inr rfl)
    · skip
      refine rs_skip rfl ?_
      refine rs_skip rfl ?_
      refine rs_skip rfl ?_
      refine rs_skip rfl ?_
      refine rs_pick rfl rfl rfl ?_
      refine rs_mv rfl rfl ?_
      refine rs_skip rfl ?_
      refine rs_skip rfl ?_
      refine rs_skip rfl ?_
      refine rs_skip rfl ?_
      refine rs_pick rfl rfl rfl ?_
      refine rs_mv rfl rfl ?_
      refine rs_skip rfl ?_
      refine rs_skip rfl ?_
      refine rs_skip rfl ?_
      refine rs_skip rfl ?_
      refine rs_pick rfl rfl rfl ?_
      refine rs_mv rfl rfl ?_
      refine rs_skip rfl ?_
      refine rs_skip rfl ?_
      refine rs_skip rfl ?_
      refine rs_skip rfl ?_
      refine rs_pick rfl rfl rfl ?_
      refine rs_mv rfl rfl ?_
      refine rs_nil fun _ => ?_
      refine th_n ?_
      refine aw_cond rfl (fun _ => ?_) (fun h => by cases h)
      refine aw_seq ?_
      refine aw_reg ?_
      refine rs_mv rfl rfl ?_
      refine rs_nil fun _ => ?_
      refine th_n ?_
      refine aw_ret ?_
      refine in_r ?_
      refine th_r ?_
      exact ret_pure rfl (congrArg iv (by unfold checkS; simp_all [rangeB]; done)) rfl (.inr rfl)
  · replace h10 := of_decide_eq_false h10
    refine aw_skip ?_
    refine th_n ?_
    refine aw_seq ?_
    refine aw_block ?_
    refine aw_seq ?_
    refine aw_reg ?_
    refine rs_mv rfl rfl ?_
    refine rs_ifnil_i rfl rfl ?_
    refine rs_mv rfl rfl ?_
    refine rs_nil fun _ => ?_
    refine th_n ?_
    refine aw_cond rfl (fun h => by cases h) (fun _ => ?_)
    refine aw_seq ?_
    refine aw_reg ?_
    refine rs_fa_p rfl rfl ?_
    refine rs_ld_pa rfl rfl rfl rfl (Nat.le_of_ble_eq_true rfl) rfl ?_
    refine rs_calln [] rfl rfl (fc40 m.fr) (.cons (hv_same rfl) (.nil)) rfl ?_
    refine rs_not rfl rfl ?_
    refine rs_mv rfl rfl ?_
    cases h19 : !inS m.fr
    · skip
      refine rs_fa_p rfl rfl ?_
      refine rs_ld_pa rfl rfl rfl rfl (Nat.le_of_ble_eq_true rfl) rfl ?_
      refine rs_calln [] rfl rfl (fc40 m.to) (.cons (hv_same rfl) (.nil)) rfl ?_
      refine rs_not rfl rfl ?_
      cases h23 : !inS m.to
      · skip
        refine rs_pick rfl rfl rfl ?_
        refine rs_mv rfl rfl ?_
        refine rs_fa_p rfl rfl ?_
        refine rs_ld_pa rfl rfl rfl rfl (Nat.le_of_ble_eq_true rfl) rfl ?_
        refine rs_calln [] rfl rfl (fc40 m.co) (.cons (hv_same rfl) (.nil)) rfl ?_
        refine rs_not rfl rfl ?_
        cases h29 : !inS m.co
        · skip
          refine rs_pick rfl rfl rfl ?_
          refine rs_mv rfl rfl ?_
          refine rs_fa_p rfl rfl ?_
          refine rs_ld_p rfl rfl rfl rfl rfl ?_
          refine rs_mv rfl rfl ?_
          refine rs_cmp rfl rfl rfl rfl (fun h35 => ?_) (fun h35 => ?_)
          · skip
            refine rs_pick rfl rfl rfl ?_
            refine rs_mv rfl rfl ?_
            refine rs_skip rfl ?_
            refine rs_skip rfl ?_
            refine rs_skip rfl ?_
            refine rs_skip rfl ?_
            refine rs_pick rfl rfl rfl ?_
            refine rs_mv rfl rfl ?_
            refine rs_nil fun _ => ?_
            refine th_n ?_
            refine aw_cond rfl (fun _ => ?_) (fun h => by cases h)
            refine aw_seq ?_
            refine aw_reg ?_
            refine rs_mv rfl rfl ?_
            refine rs_nil fun _ => ?_
            refine th_n ?_
            refine aw_ret ?_
            refine in_r ?_
            refine th_r ?_
            exact ret_pure rfl (congrArg iv (by unfold checkS; simp_all [rangeB]; done)) rfl (.inr rfl)
          · skip
            refine rs_pick rfl rfl rfl ?_
            refine rs_mv rfl rfl ?_
            refine rs_fa_p rfl rfl ?_
            refine rs_ld_p rfl rfl rfl rfl rfl ?_
            refine rs_mv rfl rfl ?_
            refine rs_cmp rfl rfl rfl rfl (fun h41 => ?_) (fun h41 => ?_)
            · skip
              refine rs_pick rfl rfl rfl ?_
              refine rs_mv rfl rfl ?_
              refine rs_nil fun _ => ?_
              refine th_n ?_
              refine aw_cond rfl (fun _ => ?_) (fun h => by cases h)
              refine aw_seq ?_
              refine aw_reg ?_
              refine rs_mv rfl rfl ?_
              refine rs_nil fun _ => ?_
              refine th_n ?_
              refine aw_ret ?_
              refine in_r ?_
              refine th_r ?_
              exact ret_pure rfl (congrArg iv (by unfold checkS; simp_all [rangeB]; done)) rfl (.inr rfl)
            · skip
              refine rs_pick rfl rfl rfl ?_
              refine rs_mv rfl rfl ?_
              refine rs_nil fun _ => ?_
              refine th_n ?_
              refine aw_cond rfl (fun h => by cases h) (fun _ => ?_)
              refine aw_seq ?_
              refine aw_reg ?_
              refine rs_mv rfl rfl ?_
              refine rs_invn [] rfl rfl (by kernel_rfl) (by kernel_rfl) rfl (fc73 m) (.cons (hv_same rfl) (.nil)) rfl ?_
              refine rs_not rfl rfl ?_
              cases h46 : !fitsL m
              · skip
                refine rs_mv rfl rfl ?_
                refine rs_nil fun _ => ?_
                refine th_n ?_
                refine aw_cond rfl (fun h => by cases h) (fun _ => ?_)
                refine aw_skip ?_
                refine in_n ?_
                refine th_n ?_
                refine aw_seq ?_
                refine aw_reg ?_
                refine rs_mv rfl rfl ?_
                refine rs_nil fun _ => ?_
                refine th_n ?_
                refine aw_ret ?_
                exact ret_pure rfl (congrArg iv (by unfold checkS; simp_all [rangeB]; done)) rfl (.inr rfl)
              · skip
                refine rs_mv rfl rfl ?_
                refine rs_nil fun _ => ?_
                refine th_n ?_
                refine aw_cond rfl (fun _ => ?_) (fun h => by cases h)
                refine aw_seq ?_
                refine aw_reg ?_
                refine rs_mv rfl rfl ?_
                refine rs_nil fun _ => ?_
                refine th_n ?_
                refine aw_ret ?_
                refine in_r ?_
                refine th_r ?_
                exact ret_pure rfl (congrArg iv (by unfold checkS; simp_all [rangeB]; done)) rfl (.inr rfl)
        · skip
          refine rs_pick rfl rfl rfl ?_
          refine rs_mv rfl rfl ?_
          refine rs_skip rfl ?_
          refine rs_skip rfl ?_
          refine rs_skip rfl ?_
          refine rs_skip rfl ?_
          refine rs_pick rfl rfl rfl ?_
          refine rs_mv rfl rfl ?_
          refine rs_skip rfl ?_
          refine rs_skip rfl ?_
          refine rs_skip rfl ?_
          refine rs_skip rfl ?_
          refine rs_pick rfl rfl rfl ?_
          refine rs_mv rfl rfl ?_
          refine rs_nil fun _ => ?_
          refine th_n ?_
          refine aw_cond rfl (fun _ => ?_) (fun h => by cases h)
          refine aw_seq ?_
          refine aw_reg ?_
          refine rs_mv rfl rfl ?_
          refine rs_nil fun _ => ?_
          refine th_n ?_
          refine aw_ret ?_
          refine in_r ?_
          refine th_r ?_
          exact ret_pure rfl (congrArg iv (by unfold checkS; simp_all [rangeB]; done)) rfl (.inr rfl)
      · skip
        refine rs_pick rfl rfl rfl ?_
        refine rs_mv rfl rfl ?_
        refine rs_skip rfl ?_
        refine rs_skip rfl ?_
        refine rs_skip rfl ?_
        refine rs_skip rfl ?_
        refine rs_pick rfl rfl rfl ?_
        refine rs_mv rfl rfl ?_
        refine rs_skip rfl ?_
        refine rs_skip rfl ?_
        refine rs_skip rfl ?_
        refine rs_skip rfl ?_
        refine rs_pick rfl rfl rfl ?_
        refine rs_mv rfl rfl ?_
        refine rs_skip rfl ?_
        refine rs_skip rfl ?_
        refine rs_skip rfl ?_
        refine rs_skip rfl ?_
        refine rs_pick rfl rfl rfl ?_
        refine rs_mv rfl rfl ?_
        refine rs_nil fun _ => ?_
        refine th_n ?_
        refine aw_cond rfl (fun _ => ?_) (fun h => by cases h)
        refine aw_seq ?_
        refine aw_reg ?_
        refine rs_mv rfl rfl ?_
        refine rs_nil fun _ => ?_
        refine th_n ?_
        refine aw_ret ?_
        refine in_r ?_
        refine th_r ?_
        exact ret_pure rfl (congrArg iv (by unfold checkS; simp_all [rangeB]; done)) rfl (.inr rfl)
    · skip
      refine rs_skip rfl ?_
      refine rs_skip rfl ?_
      refine rs_skip rfl ?_
      refine rs_skip rfl ?_
      refine rs_pick rfl rfl rfl ?_
      refine rs_mv rfl rfl ?_
      refine rs_skip rfl ?_
      refine rs_skip rfl ?_
      refine rs_skip rfl ?_
      refine rs_skip rfl ?_
      refine rs_pick rfl rfl rfl ?_
      refine rs_mv rfl rfl ?_
      refine rs_skip rfl ?_
      refine rs_skip rfl ?_
      refine rs_skip rfl ?_
      refine rs_skip rfl ?_
      refine rs_pick rfl rfl rfl ?_
      refine rs_mv rfl rfl ?_
      refine rs_skip rfl ?_
      refine rs_skip rfl ?_
      refine rs_skip rfl ?_
      refine rs_skip rfl ?_
      refine rs_pick rfl rfl rfl ?_
      refine rs_mv rfl rfl ?_
      refine rs_nil fun _ => ?_
      refine th_n ?_
      refine aw_cond rfl (fun _ => ?_) (fun h => by cases h)
      refine aw_seq ?_
      refine aw_reg ?_
      refine rs_mv rfl rfl ?_
      refine rs_nil fun _ => ?_
      refine th_n ?_
      refine aw_ret ?_
      refine in_r ?_
      refine th_r ?_
      exact ret_pure rfl (congrArg iv (by unfold checkS; simp_all [rangeB]; done)) rfl (.inr rfl)

theorem fc12_a (m : Mv) (hk : m.kind = 3) : FC Tryd.prog 17 [aM m] [] (iv (checkS m)) [] false := by
  refine fc_run (nt := 47) Tryd.func17 rfl rfl mcOk12 (Nat.le_of_ble_eq_true rfl) ?_
  delta mc12
  refine aw_seq ?_
  refine aw_reg ?_
  refine rs_box rfl rfl rfl rfl rfl rfl ?_
  refine rs_mv rfl rfl ?_
  refine rs_nil fun _ => ?_
  refine th_n ?_
  refine aw_seq ?_
  refine aw_reg ?_
  refine rs_ld_pa rfl rfl rfl rfl (Nat.le_of_ble_eq_true rfl) rfl ?_
  refine rs_calln [] rfl rfl (fc39_a m hk) (.cons (hv_same rfl) (.nil)) rfl ?_
  refine rs_mv rfl rfl ?_
  refine rs_nil fun _ => ?_
  refine th_n ?_
  refine aw_seq ?_
  refine aw_reg ?_
  refine rs_mv rfl rfl ?_
  refine rs_mv rfl rfl ?_
  refine rs_nil fun _ => ?_
  refine th_n ?_
  refine aw_seq ?_
  refine aw_seq ?_
  refine aw_reg ?_
  refine rs_fa_p rfl rfl ?_
  refine rs_ld_p rfl rfl rfl rfl rfl ?_
  refine rs_eql rfl rfl rfl ?_
  refine rs_nil fun _ => ?_
  refine th_n ?_
  refine aw_cond rfl (fun h10 => ?_) (fun h10 => ?_)
  · replace h10 := of_decide_eq_true h10
    refine aw_reg ?_
    refine rs_mv rfl rfl ?_
    refine rs_mv rfl rfl ?_
    refine rs_nil fun _ => ?_
    refine th_n ?_
    refine aw_seq ?_
    refine aw_block ?_
    refine aw_seq ?_
    refine aw_reg ?_
    refine rs_mv rfl rfl ?_
    refine rs_ifnil_i rfl rfl ?_
    refine rs_mv rfl rfl ?_
    refine rs_nil fun _ => ?_
    refine th_n ?_
    refine aw_cond rfl (fun h => by cases h) (fun _ => ?_)
    refine aw_seq ?_
    refine aw_reg ?_
    refine rs_fa_p rfl rfl ?_
    refine rs_ld_pa rfl rfl rfl rfl (Nat.le_of_ble_eq_true rfl) rfl ?_
    refine rs_calln [] rfl rfl (fc40 m.fr) (.cons (hv_same rfl) (.nil)) rfl ?_
    refine rs_not rfl rfl ?_
    refine rs_mv rfl rfl ?_
    cases h19 : !inS m.fr
    · skip
      refine rs_fa_p rfl rfl ?_
      refine rs_ld_pa rfl rfl rfl rfl (Nat.le_of_ble_eq_true rfl) rfl ?_
      refine rs_calln [] rfl rfl (fc40 m.to) (.cons (hv_same rfl) (.nil)) rfl ?_
      refine rs_not rfl rfl ?_
      cases h23 : !inS m.to
      · skip
        refine rs_pick rfl rfl rfl ?_
        refine rs_mv rfl rfl ?_
        refine rs_fa_p rfl rfl ?_
        refine rs_ld_pa rfl rfl rfl rfl (Nat.le_of_ble_eq_true rfl) rfl ?_
        refine rs_calln [] rfl rfl (fc40 m.co) (.cons (hv_same rfl) (.nil)) rfl ?_
        refine rs_not rfl rfl ?_
        cases h29 : !inS m.co
        · skip
          refine rs_pick rfl rfl rfl ?_
          refine rs_mv rfl rfl ?_
          refine rs_fa_p rfl rfl ?_
          refine rs_ld_p rfl rfl rfl rfl rfl ?_
          refine rs_mv rfl rfl ?_
          refine rs_cmp rfl rfl rfl rfl (fun h35 => ?_) (fun h35 => ?_)
          · skip
            refine rs_pick rfl rfl rfl ?_
            refine rs_mv rfl rfl ?_
            refine rs_skip rfl ?_
            refine rs_skip rfl ?_
            refine rs_skip rfl ?_
            refine rs_skip rfl ?_
            refine rs_pick rfl rfl rfl ?_
            refine rs_mv rfl rfl ?_
            refine rs_nil fun _ => ?_
            refine th_n ?_
            refine aw_cond rfl (fun _ => ?_) (fun h => by cases h)
            refine aw_seq ?_
            refine aw_reg ?_
            refine rs_mv rfl rfl ?_
            refine rs_nil fun _ => ?_
            refine th_n ?_
            refine aw_ret ?_
            refine in_r ?_
            refine th_r ?_
            (exfalso; omega)
          · skip
            refine rs_pick rfl rfl rfl ?_
            refine rs_mv rfl rfl ?_
            refine rs_fa_p rfl rfl ?_
            refine rs_ld_p rfl rfl rfl rfl rfl ?_
            refine rs_mv rfl rfl ?_
            refine rs_cmp rfl rfl rfl rfl (fun h41 => ?_) (fun h41 => ?_)
            · skip
              refine rs_pick rfl rfl rfl ?_
              refine rs_mv rfl rfl ?_
              refine rs_nil fun _ => ?_
              refine th_n ?_
              refine aw_cond rfl (fun _ => ?_) (fun h => by cases h)
              refine aw_seq ?_
              refine aw_reg ?_
              refine rs_mv rfl rfl ?_
              refine rs_nil fun _ => ?_
              refine th_n ?_
              refine aw_ret ?_
              refine in_r ?_
              refine th_r ?_
              (exfalso; omega)
            · skip
              refine rs_pick rfl rfl rfl ?_
              refine rs_mv rfl rfl ?_
              refine rs_nil fun _ => ?_
              refine th_n ?_
              refine aw_cond rfl (fun h => by cases h) (fun _ => ?_)
              refine aw_seq ?_
              refine aw_reg ?_
              refine rs_mv rfl rfl ?_
              refine rs_invn [] rfl rfl (by kernel_rfl) (by kernel_rfl) rfl (fc79 m (inM_of h19 h23 h29)) (.cons (hv_same rfl) (.nil)) rfl ?_
              refine rs_not rfl rfl ?_
              cases h46 : !fitsA m
              · skip
                refine rs_mv rfl rfl ?_
                refine rs_nil fun _ => ?_
                refine th_n ?_
                refine aw_cond rfl (fun h => by cases h) (fun _ => ?_)
                refine aw_skip ?_
                refine in_n ?_
                refine th_n ?_
                refine aw_seq ?_
                refine aw_reg ?_
                refine rs_mv rfl rfl ?_
                refine rs_nil fun _ => ?_
                refine th_n ?_
                refine aw_ret ?_
                (exfalso; omega)
              · skip
                refine rs_mv rfl rfl ?_
                refine rs_nil fun _ => ?_
                refine th_n ?_
                refine aw_cond rfl (fun _ => ?_) (fun h => by cases h)
                refine aw_seq ?_
                refine aw_reg ?_
                refine rs_mv rfl rfl ?_
                refine rs_nil fun _ => ?_
                refine th_n ?_
                refine aw_ret ?_
                refine in_r ?_
                refine th_r ?_
                (exfalso; omega)
        · skip
          refine rs_pick rfl rfl rfl ?_
          refine rs_mv rfl rfl ?_
          refine rs_skip rfl ?_
          refine rs_skip rfl ?_
          refine rs_skip rfl ?_
          refine rs_skip rfl ?_
          refine rs_pick rfl rfl rfl ?_
          refine rs_mv rfl rfl ?_
          refine rs_skip rfl ?_
          refine rs_skip rfl ?_
          refine rs_skip rfl ?_
          refine rs_skip rfl ?_
          refine rs_pick rfl rfl rfl ?_
          refine rs_mv rfl rfl ?_
          refine rs_nil fun _ => ?_
          refine th_n ?_
          refine aw_cond rfl (fun _ => ?_) (fun h => by cases h)
          refine aw_seq ?_
          refine aw_reg ?_
          refine rs_mv rfl rfl ?_
          refine rs_nil fun _ => ?_
          refine th_n ?_
          refine aw_ret ?_
          refine in_r ?_
          refine th_r ?_
          (exfalso; omega)
      · skip
        refine rs_pick rfl rfl rfl ?_
        refine rs_mv rfl rfl ?_
        refine rs_skip rfl ?_
        refine rs_skip rfl ?_
        refine rs_skip rfl ?_
        refine rs_skip rfl ?_
        refine rs_pick rfl rfl rfl ?_
        refine rs_mv rfl rfl ?_
        refine rs_skip rfl ?_
        refine rs_skip rfl ?_
        refine rs_skip rfl ?_
        refine rs_skip rfl ?_
        refine rs_pick rfl rfl rfl ?_
        refine rs_mv rfl rfl ?_
        refine rs_skip rfl ?_
        refine rs_skip rfl ?_
        refine rs_skip rfl ?_
        refine rs_skip rfl ?_
        refine rs_pick rfl rfl rfl ?_
        refine rs_mv rfl rfl ?_
        refine rs_nil fun _ => ?_
        refine th_n ?_
        refine aw_cond rfl (fun _ => ?_) (fun h => by cases h)
        refine aw_seq ?_
        refine aw_reg ?_
        refine rs_mv rfl rfl ?_
        refine rs_nil fun _ => ?_
        refine th_n ?_
        refine aw_ret ?_
        refine in_r ?_
        refine th_r ?_
        (exfalso; omega)
    · skip
      refine rs_skip rfl ?_
      refine rs_skip rfl ?_
      refine rs_skip rfl ?_
      refine rs_skip rfl ?_
      refine rs_pick rfl rfl rfl ?_
      refine rs_mv rfl rfl ?_
      refine rs_skip rfl ?_
      refine rs_skip rfl ?_
      refine rs_skip rfl ?_
      refine rs_skip rfl ?_
      refine rs_pick rfl rfl rfl ?_
      refine rs_mv rfl rfl ?_
      refine rs_skip rfl ?_
      refine rs_skip rfl ?_
      refine rs_skip rfl ?_
      refine rs_skip rfl ?_
      refine rs_pick rfl rfl rfl ?_
      refine rs_mv rfl rfl ?_
      refine rs_skip rfl ?_
      refine rs_skip rfl ?_
      refine rs_skip rfl ?_
      refine rs_skip rfl ?_
      refine rs_pick rfl rfl rfl ?_
      refine rs_mv rfl rfl ?_
      refine rs_nil fun _ => ?_
      refine th_n ?_
      refine aw_cond rfl (fun _ => ?_) (fun h => by cases h)
      refine aw_seq ?_
      refine aw_reg ?_
      refine rs_mv rfl rfl ?_
      refine rs_nil fun _ => ?_
      refine th_n ?_
      refine aw_ret ?_
      refine in_r ?_
      refine th_r ?_
      (exfalso; omega)
  · replace h10 := of_decide_eq_false h10
    refine aw_skip ?_
    refine th_n ?_
    refine aw_seq ?_
    refine aw_block ?_
    refine aw_seq ?_
    refine aw_reg ?_
    refine rs_mv rfl rfl ?_
    refine rs_ifnil_i rfl rfl ?_
    refine rs_mv rfl rfl ?_
    refine rs_nil fun _ => ?_
    refine th_n ?_
    refine aw_cond rfl (fun h => by cases h) (fun _ => ?_)
    refine aw_seq ?_
    refine aw_reg ?_
    refine rs_fa_p rfl rfl ?_
    refine rs_ld_pa rfl rfl rfl rfl (Nat.le_of_ble_eq_true rfl) rfl ?_
    refine rs_calln [] rfl rfl (fc40 m.fr) (.cons (hv_same rfl) (.nil)) rfl ?_
    refine rs_not rfl rfl ?_
    refine rs_mv rfl rfl ?_
    cases h19 : !inS m.fr
    · skip
      refine rs_fa_p rfl rfl ?_
      refine rs_ld_pa rfl rfl rfl rfl (Nat.le_of_ble_eq_true rfl) rfl ?_
      refine rs_calln [] rfl rfl (fc40 m.to) (.cons (hv_same rfl) (.nil)) rfl ?_
      refine rs_not rfl rfl ?_
      cases h23 : !inS m.to
      · skip
        refine rs_pick rfl rfl rfl ?_
        refine rs_mv rfl rfl ?_
        refine rs_fa_p rfl rfl ?_
        refine rs_ld_pa rfl rfl rfl rfl (Nat.le_of_ble_eq_true rfl) rfl ?_
        refine rs_calln [] rfl rfl (fc40 m.co) (.cons (hv_same rfl) (.nil)) rfl ?_
        refine rs_not rfl rfl ?_
        cases h29 : !inS m.co
        · skip
          refine rs_pick rfl rfl rfl ?_
          refine rs_mv rfl rfl ?_
          refine rs_fa_p rfl rfl ?_
          refine rs_ld_p rfl rfl rfl rfl rfl ?_
          refine rs_mv rfl rfl ?_
          refine rs_cmp rfl rfl rfl rfl (fun h35 => ?_) (fun h35 => ?_)
          · skip
            refine rs_pick rfl rfl rfl ?_
            refine rs_mv rfl rfl ?_
            refine rs_skip rfl ?_
            refine rs_skip rfl ?_
            refine rs_skip rfl ?_
            refine rs_skip rfl ?_
            refine rs_pick rfl rfl rfl ?_
            refine rs_mv rfl rfl ?_
            refine rs_nil fun _ => ?_
            refine th_n ?_
            refine aw_cond rfl (fun _ => ?_) (fun h => by cases h)
            refine aw_seq ?_
            refine aw_reg ?_
            refine rs_mv rfl rfl ?_
            refine rs_nil fun _ => ?_
            refine th_n ?_
            refine aw_ret ?_
            refine in_r ?_
            refine th_r ?_
            exact ret_pure rfl (congrArg iv (by unfold checkS; simp_all [rangeB]; done)) rfl (.inr rfl)
          · skip
            refine rs_pick rfl rfl rfl ?_
            refine rs_mv rfl rfl ?_
            refine rs_fa_p rfl rfl ?_
            refine rs_ld_p rfl rfl rfl rfl rfl ?_
            refine rs_mv rfl rfl ?_
            refine rs_cmp rfl rfl rfl rfl (fun h41 => ?_) (fun h41 => ?_)
            · skip
              refine rs_pick rfl rfl rfl ?_
              refine rs_mv rfl rfl ?_
              refine rs_nil fun _ => ?_
              refine th_n ?_
              refine aw_cond rfl (fun _ => ?_) (fun h => by cases h)
              refine aw_seq ?_
              refine aw_reg ?_
              refine rs_mv rfl rfl ?_
              refine rs_nil fun _ => ?_
              refine th_n ?_
              refine aw_ret ?_
              refine in_r ?_
              refine th_r ?_
              exact ret_pure rfl (congrArg iv (by unfold checkS; simp_all [rangeB]; done)) rfl (.inr rfl)
            · skip
              refine rs_pick rfl rfl rfl ?_
              refine rs_mv rfl rfl ?_
              refine rs_nil fun _ => ?_
              refine th_n ?_
              refine aw_cond rfl (fun h => by cases h) (fun _ => ?_)
              refine aw_seq ?_
              refine aw_reg ?_
              refine rs_mv rfl rfl ?_
              refine rs_invn [] rfl rfl (by kernel_rfl) (by kernel_rfl) rfl (fc79 m (inM_of h19 h23 h29)) (.cons (hv_same rfl) (.nil)) rfl ?_
              refine rs_not rfl rfl ?_
              cases h46 : !fitsA m
              · skip
                refine rs_mv rfl rfl ?_
                refine rs_nil fun _ => ?_
                refine th_n ?_
                refine aw_cond rfl (fun h => by cases h) (fun _ => ?_)
                refine aw_skip ?_
                refine in_n ?_
                refine th_n ?_
                refine aw_seq ?_
                refine aw_reg ?_
                refine rs_mv rfl rfl ?_
                refine rs_nil fun _ => ?_
                refine th_n ?_
                refine aw_ret ?_
                exact ret_pure rfl (congrArg iv (by unfold checkS; simp_all [rangeB]; done)) rfl (.inr rfl)
              · skip
                refine rs_mv rfl rfl ?_
                refine rs_nil fun _ => ?_
                refine th_n ?_
                refine aw_cond rfl (fun _ => ?_) (fun h => by cases h)
                refine aw_seq ?_
                refine aw_reg ?_
                refine rs_mv rfl rfl ?_
                refine rs_nil fun _ => ?_
                refine th_n ?_
                refine aw_ret ?_
                refine in_r ?_
                refine th_r ?_
                exact ret_pure rfl (congrArg iv (by unfold checkS; simp_all [rangeB]; done)) rfl (.inr rfl)
        · skip
          refine rs_pick rfl rfl rfl ?_
          refine rs_mv rfl rfl ?_
          refine rs_skip rfl ?_
          refine rs_skip rfl ?_
          refine rs_skip rfl ?_
          refine rs_skip rfl ?_
          refine rs_pick rfl rfl rfl ?_
          refine rs_mv rfl rfl ?_
          refine rs_skip rfl ?_
          refine rs_skip rfl ?_
          refine rs_skip rfl ?_
          refine rs_skip rfl ?_
          refine rs_pick rfl rfl rfl ?_
          refine rs_mv rfl rfl ?_
          refine rs_nil fun _ => ?_
          refine th_n ?_
          refine aw_cond rfl (fun _ => ?_) (fun h => by cases h)
          refine aw_seq ?_
          refine aw_reg ?_
          refine rs_mv rfl rfl ?_
          refine rs_nil fun _ => ?_
          refine th_n ?_
          refine aw_ret ?_
          refine in_r ?_
          refine th_r ?_
          exact ret_pure rfl (congrArg iv (by unfold checkS; simp_all [rangeB]; done)) rfl (.inr rfl)
      · skip
        refine rs_pick rfl rfl rfl ?_
        refine rs_mv rfl rfl ?_
        refine rs_skip rfl ?_
        refine rs_skip rfl ?_
        refine rs_skip rfl ?_
        refine rs_skip rfl ?_
        refine rs_pick rfl rfl rfl ?_
        refine rs_mv rfl rfl ?_
        refine rs_skip rfl ?_
        refine rs_skip rfl ?_
        refine rs_skip rfl ?_
        refine rs_skip rfl ?_
        refine rs_pick rfl rfl rfl ?_
        refine rs_mv rfl rfl ?_
        refine rs_skip rfl ?_
        refine rs_skip rfl ?_
        refine rs_skip rfl ?_
        refine rs_skip rfl ?_
        refine rs_pick rfl rfl rfl ?_
        refine rs_mv rfl rfl ?_
        refine rs_nil fun _ => ?_
        refine th_n ?_
        refine aw_cond rfl (fun _ => ?_) (fun h => by cases h)
        refine aw_seq ?_
        refine aw_reg ?_
        refine rs_mv rfl rfl ?_
        refine rs_nil fun _ => ?_
        refine th_n ?_
        refine aw_ret ?_
        refine in_r ?_
        refine th_r ?_
        exact ret_pure rfl (congrArg iv (by unfold checkS; simp_all [rangeB]; done)) rfl (.inr rfl)
    · skip
      refine rs_skip rfl ?_
      refine rs_skip rfl ?_
      refine rs_skip rfl ?_
      refine rs_skip rfl ?_
      refine rs_pick rfl rfl rfl ?_
      refine rs_mv rfl rfl ?_
      refine rs_skip rfl ?_
      refine rs_skip rfl ?_
      refine rs_skip rfl ?_
      refine rs_skip rfl ?_
      refine rs_pick rfl rfl rfl ?_
      refine rs_mv rfl rfl ?_
      refine rs_skip rfl ?_
      refine rs_skip rfl ?_
      refine rs_skip rfl ?_
      refine rs_skip rfl ?_
      refine rs_pick rfl rfl rfl ?_
      refine rs_mv rfl rfl ?_
      refine rs_skip rfl ?_
      refine rs_skip rfl ?_
      refine rs_skip rfl ?_
      refine rs_skip rfl ?_
      refine rs_pick rfl rfl rfl ?_
      refine rs_mv rfl rfl ?_
      refine rs_nil fun _ => ?_
      refine th_n ?_
      refine aw_cond rfl (fun _ => ?_) (fun h => by cases h)
      refine aw_seq ?_
      refine aw_reg ?_
      refine rs_mv rfl rfl ?_
      refine rs_nil fun _ => ?_
      refine th_n ?_
      refine aw_ret ?_
      refine in_r ?_
      refine th_r ?_
      exact ret_pure rfl (congrArg iv (by unfold checkS; simp_all [rangeB]; done)) rfl (.inr rfl)

theorem fc12_n (m : Mv) (hk : ¬ m.kind = 1 ∧ ¬ m.kind = 2 ∧ ¬ m.kind = 3) : FC Tryd.prog 17 [aM m] [] (iv (checkS m)) [] false := by
  refine fc_run (nt := 47) Tryd.func17 rfl rfl mcOk12 (Nat.le_of_ble_eq_true rfl) ?_
  delta mc12
  refine aw_seq ?_
  refine aw_reg ?_
  refine rs_box rfl rfl rfl rfl rfl rfl ?_
  refine rs_mv rfl rfl ?_
  refine rs_nil fun _ => ?_
  refine th_n ?_
  refine aw_seq ?_
  refine aw_reg ?_
  refine rs_ld_pa rfl rfl rfl rfl (Nat.le_of_ble_eq_true rfl) rfl ?_
  refine rs_calln [] rfl rfl (fc39_n m hk) (.cons (hv_same rfl) (.nil)) rfl ?_
  refine rs_mv rfl rfl ?_
  refine rs_nil fun _ => ?_
  refine th_n ?_
  refine aw_seq ?_
  refine aw_reg ?_
  refine rs_mv rfl rfl ?_
  refine rs_mv rfl rfl ?_
  refine rs_nil fun _ => ?_
  refine th_n ?_
  refine aw_seq ?_
  refine aw_seq ?_
  refine aw_reg ?_
  refine rs_fa_p rfl rfl ?_
  refine rs_ld_p rfl rfl rfl rfl rfl ?_
  refine rs_eql rfl rfl rfl ?_
  refine rs_nil fun _ => ?_
  refine th_n ?_
  refine aw_cond rfl (fun h10 => ?_) (fun h10 => ?_)
  · replace h10 := of_decide_eq_true h10
    refine aw_reg ?_
    refine rs_mv rfl rfl ?_
    refine rs_mv rfl rfl ?_
    refine rs_nil fun _ => ?_
    refine th_n ?_
    refine aw_seq ?_
    refine aw_block ?_
    refine aw_seq ?_
    refine aw_reg ?_
    refine rs_mv rfl rfl ?_
    refine rs_ifnil_n rfl rfl ?_
    refine rs_mv rfl rfl ?_
    refine rs_nil fun _ => ?_
    refine th_n ?_
    refine aw_cond rfl (fun _ => ?_) (fun h => by cases h)
    refine aw_seq ?_
    refine aw_reg ?_
    refine rs_mv rfl rfl ?_
    refine rs_nil fun _ => ?_
    refine th_n ?_
    refine aw_ret ?_
    refine in_r ?_
    refine th_r ?_
    (exfalso; omega)
  · replace h10 := of_decide_eq_false h10
    refine aw_skip ?_
    refine th_n ?_
    refine aw_seq ?_
    refine aw_block ?_
    refine aw_seq ?_
    refine aw_reg ?_
    refine rs_mv rfl rfl ?_
    refine rs_ifnil_n rfl rfl ?_
    refine rs_mv rfl rfl ?_
    refine rs_nil fun _ => ?_
    refine th_n ?_
    refine aw_cond rfl (fun _ => ?_) (fun h => by cases h)
    refine aw_seq ?_
    refine aw_reg ?_
    refine rs_mv rfl rfl ?_
    refine rs_nil fun _ => ?_
    refine th_n ?_
    refine aw_ret ?_
    refine in_r ?_
    refine th_r ?_
    exact ret_pure rfl (congrArg iv (by unfold checkS; simp_all [rangeB]; done)) rfl (.inr rfl)

theorem fc12 (m : Mv) : FC Tryd.prog 17 [aM m] [] (iv (checkS m)) [] false := by
  by_cases h1 : m.kind = 1 ∨ m.kind = 2
  · exact fc12_l m h1
  · by_cases h3 : m.kind = 3
    · exact fc12_a m h3
    · exact fc12_n m (by omega)

end Go.Proofs.YteommcdafifckaaDoor

/-! Plain law: the form of an arc, told in both ways. -/
namespace Go.Proofs.YteommcdafifckaaDoor
open Go.RowKit

theorem gS_eq (v : V3) : gS v = Nat.gcd (Nat.gcd v.x.natAbs v.y.natAbs) v.z.natAbs := by simp [gS, gL]
theorem gS_dvd (v : V3) : (gS v : Int) ∣ v.x ∧ (gS v : Int) ∣ v.y ∧ (gS v : Int) ∣ v.z := by
  rw [gS_eq]
  refine ⟨?_, ?_, ?_⟩ <;> rw [Int.ofNat_dvd_left]
  · exact Nat.dvd_trans (Nat.gcd_dvd_left _ _) (Nat.gcd_dvd_left _ _)
  · exact Nat.dvd_trans (Nat.gcd_dvd_left _ _) (Nat.gcd_dvd_right _ _)
  · exact Nat.gcd_dvd_right _ _
theorem prim_mul (v : V3) : v.x = gS v * (primV v).x ∧ v.y = gS v * (primV v).y ∧ v.z = gS v * (primV v).z := by
  obtain ⟨h1, h2, h3⟩ := gS_dvd v
  unfold primV
  split
  · rename_i h
    rw [h] at h1 h2 h3 ⊢
    simp only [Int.natCast_zero, Int.zero_mul]
    exact ⟨Int.zero_dvd.1 h1, Int.zero_dvd.1 h2, Int.zero_dvd.1 h3⟩
  · exact ⟨(Int.mul_tdiv_cancel' h1).symm, (Int.mul_tdiv_cancel' h2).symm, (Int.mul_tdiv_cancel' h3).symm⟩
theorem sq_nonneg (a : Int) : 0 ≤ a * a := by
  rcases Int.le_total 0 a with h | h
  · exact Int.mul_nonneg h h
  · rw [← Int.neg_mul_neg]; exact Int.mul_nonneg (by omega) (by omega)
theorem sq_le1 {a : Int} (h : a * a ≤ 1) : a = -1 ∨ a = 0 ∨ a = 1 := by
  have h1 : ¬ 2 ≤ a := fun h2 => by
    have := Int.mul_le_mul h2 h2 (by omega) (by omega)
    omega
  have h2 : ¬ a ≤ -2 := fun h2 => by
    have := Int.mul_le_mul (show 2 ≤ -a by omega) (show 2 ≤ -a by omega) (by omega) (by omega)
    rw [Int.neg_mul_neg] at this
    omega
  omega
/-- Unit vectors along an axis. -/
theorem unit_cases {p : V3} (h : dot p p = 1) : p = ⟨1, 0, 0⟩ ∨ p = ⟨-1, 0, 0⟩ ∨ p = ⟨0, 1, 0⟩ ∨ p = ⟨0, -1, 0⟩ ∨ p = ⟨0, 0, 1⟩ ∨ p = ⟨0, 0, -1⟩ := by
  obtain ⟨x, y, z⟩ := p
  unfold dot at h
  dsimp only at h
  have h1 := sq_nonneg x
  have h2 := sq_nonneg y
  have h3 := sq_nonneg z
  rcases sq_le1 (a := x) (by omega) with rfl | rfl | rfl <;> rcases sq_le1 (a := y) (by omega) with rfl | rfl | rfl <;> rcases sq_le1 (a := z) (by omega) with rfl | rfl | rfl <;> simp at h ⊢
theorem tdiv_abs {a : Int} (h : a ≠ 0) : a.tdiv a.natAbs = 1 ∨ a.tdiv a.natAbs = -1 := by
  rcases Int.lt_trichotomy a 0 with h1 | h1 | h1
  · right
    have : ((a.natAbs : Nat) : Int) = -a := by omega
    rw [this, Int.tdiv_neg, Int.tdiv_self h]
  · exact absurd h1 h
  · left
    have : ((a.natAbs : Nat) : Int) = a := by omega
    rw [this, Int.tdiv_self h]
/-- A vector is parallel to an axis: told by its length, and by its primitive vector. -/
theorem unit_len (v : V3) : dot (primV v) (primV v) = 1 ↔ 1 ≤ lenS v := by
  constructor
  · intro h
    obtain ⟨e1, e2, e3⟩ := prim_mul v
    have hg : gS v ≠ 0 := fun e => by
      unfold primV at h
      rw [if_pos e] at h
      simp [dot] at h
    have hg1 : 1 ≤ (gS v : Int) := by omega
    generalize (gS v : Int) = g at e1 e2 e3 hg1
    rcases unit_cases h with e | e | e | e | e | e <;> rw [e] at e1 e2 e3 <;> simp only [Int.mul_one, Int.mul_zero, Int.mul_neg] at e1 e2 e3 <;> unfold lenS <;> dsimp only <;> rw [e1, e2, e3, if_pos (by omega)] <;> omega
  · intro h
    have h0 : (v.x ≠ 0 ∧ v.y = 0 ∧ v.z = 0) ∨ (v.x = 0 ∧ v.y ≠ 0 ∧ v.z = 0) ∨ (v.x = 0 ∧ v.y = 0 ∧ v.z ≠ 0) := by
      unfold lenS at h
      dsimp only at h
      split at h <;> omega
    have hg := gS_eq v
    rcases h0 with ⟨h1, h2, h3⟩ | ⟨h1, h2, h3⟩ | ⟨h1, h2, h3⟩
    · have e : gS v = v.x.natAbs := by rw [hg, h2, h3]; simp
      unfold primV
      rw [if_neg (by omega), e, h2, h3]
      rcases tdiv_abs h1 with q | q <;> simp [dot, q]
    · have e : gS v = v.y.natAbs := by rw [hg, h1, h3]; simp
      unfold primV
      rw [if_neg (by omega), e, h1, h3]
      rcases tdiv_abs h2 with q | q <;> simp [dot, q]
    · have e : gS v = v.z.natAbs := by rw [hg, h1, h2]; simp
      unfold primV
      rw [if_neg (by omega), e, h1, h2]
      rcases tdiv_abs h3 with q | q <;> simp [dot, q]
theorem len_g {v : V3} (h : 1 ≤ lenS v) : (gS v : Int) = lenS v := by
  have h0 : (v.x ≠ 0 ∧ v.y = 0 ∧ v.z = 0) ∨ (v.x = 0 ∧ v.y ≠ 0 ∧ v.z = 0) ∨ (v.x = 0 ∧ v.y = 0 ∧ v.z ≠ 0) := by
    unfold lenS at h
    dsimp only at h
    split at h <;> omega
  have hg := gS_eq v
  unfold lenS at h ⊢
  dsimp only at h ⊢
  rcases h0 with ⟨h1, h2, h3⟩ | ⟨h1, h2, h3⟩ | ⟨h1, h2, h3⟩
  · have e : gS v = v.x.natAbs := by rw [hg, h2, h3]; simp
    rw [e]; split <;> omega
  · have e : gS v = v.y.natAbs := by rw [hg, h1, h3]; simp
    rw [e]; split <;> omega
  · have e : gS v = v.z.natAbs := by rw [hg, h1, h2]; simp
    rw [e]; split <;> omega
theorem lenS_neg (a b : V3) : lenS (sub a b) = lenS (sub b a) := by
  unfold lenS sub
  dsimp only
  have h1 : max (a.x - b.x) (-(a.x - b.x)) = max (b.x - a.x) (-(b.x - a.x)) := by omega
  have h2 : max (a.y - b.y) (-(a.y - b.y)) = max (b.y - a.y) (-(b.y - a.y)) := by omega
  have h3 : max (a.z - b.z) (-(a.z - b.z)) = max (b.z - a.z) (-(b.z - a.z)) := by omega
  rw [h1, h2, h3]
theorem dot_neg2 (a b c : V3) : dot (sub a c) (sub b c) = dot (sub c a) (sub c b) := by
  unfold dot sub
  dsimp only
  rw [← Int.neg_mul_neg (a.x - c.x), ← Int.neg_mul_neg (a.y - c.y), ← Int.neg_mul_neg (a.z - c.z)]
  simp only [Int.neg_sub]
theorem dot_comm (a b : V3) : dot a b = dot b a := by
  unfold dot
  rw [Int.mul_comm a.x, Int.mul_comm a.y, Int.mul_comm a.z]
theorem dot_prim (u v : V3) : dot u v = gS u * gS v * dot (primV u) (primV v) := by
  obtain ⟨a1, a2, a3⟩ := prim_mul u
  obtain ⟨b1, b2, b3⟩ := prim_mul v
  have key : ∀ g h p q : Int, g * p * (h * q) = g * h * (p * q) := fun g h p q => by rw [Int.mul_assoc, Int.mul_assoc, ← Int.mul_assoc p, Int.mul_comm p, Int.mul_assoc]
  have e : ∀ ux uy uz vx vy vz g h px py pz qx qy qz : Int, ux = g * px → uy = g * py → uz = g * pz → vx = h * qx → vy = h * qy → vz = h * qz → ux * vx + uy * vy + uz * vz = g * h * (px * qx + py * qy + pz * qz) := by
    intro ux uy uz vx vy vz g h px py pz qx qy qz e1 e2 e3 e4 e5 e6
    rw [e1, e2, e3, e4, e5, e6, Int.mul_add, Int.mul_add, key g h px qx, key g h py qy, key g h pz qz]
  exact e _ _ _ _ _ _ _ _ _ _ _ _ _ _ a1 a2 a3 b1 b2 b3
theorem prim_sub (u v : V3) : sub v u = ⟨-(sub u v).x, -(sub u v).y, -(sub u v).z⟩ := by
  unfold sub; simp only [Int.neg_sub]
/-- Both forms of an arc. -/
theorem fits_quarter (m : Mv) : fitsA m = quarterS m := by
  unfold fitsA quarterS
  have hu1 := unit_len (sA m)
  have hu2 := unit_len (sB m)
  have e1 : lenS (sub m.fr m.co) = lenS (sB m) := lenS_neg _ _
  have e2 : lenS (sub m.to m.co) = lenS (sA m) := lenS_neg _ _
  have e3 : dot (sub m.fr m.co) (sub m.to m.co) = dot (sA m) (sB m) := by rw [dot_neg2, dot_comm]; rfl
  rw [e1, e2, e3]
  apply Bool.eq_iff_iff.2
  simp only [Bool.and_eq_true, decide_eq_true_eq]
  rw [hu1, hu2]
  have hd := dot_prim (sA m) (sB m)
  constructor
  · rintro ⟨h1, h2, h3, h4⟩
    rw [len_g h1, len_g h2] at h3
    exact ⟨h2, h3.symm, by rw [hd, h4, Int.mul_zero]⟩
  · rintro ⟨h1, h2, h3⟩
    have h4 : 1 ≤ lenS (sA m) := by omega
    refine ⟨h4, h1, by rw [len_g h4, len_g h1]; exact h2.symm, ?_⟩
    rw [hd] at h3
    have g1 := len_g h4
    have g2 := len_g h1
    rcases Int.mul_eq_zero.1 h3 with h | h
    · rcases Int.mul_eq_zero.1 h with h | h <;> omega
    · exact h
theorem quarter_ne {m : Mv} (h : quarterS m = true) : m.fr ≠ m.to := fun e => by
  unfold quarterS at h
  simp only [Bool.and_eq_true, decide_eq_true_eq] at h
  obtain ⟨h1, _, h3⟩ := h
  rw [e] at h1 h3
  have hx : (sub m.to m.co).x ≠ 0 ∨ (sub m.to m.co).y ≠ 0 ∨ (sub m.to m.co).z ≠ 0 := by
    unfold lenS at h1
    dsimp only at h1
    split at h1 <;> omega
  have p1 := sq_nonneg (sub m.to m.co).x
  have p2 := sq_nonneg (sub m.to m.co).y
  have p3 := sq_nonneg (sub m.to m.co).z
  unfold dot at h3
  have z : ∀ a : Int, a * a = 0 → a = 0 := fun a h => (Int.mul_eq_zero.1 h).elim id id
  rcases hx with h | h | h
  · exact h (z _ (by omega))
  · exact h (z _ (by omega))
  · exact h (z _ (by omega))
theorem check_eq (m : Mv) : checkR m = checkS m := by
  unfold checkR checkS rangeB feedR lastR
  rw [fits_quarter]
  have hq := @quarter_ne m
  unfold fitsL
  by_cases h1 : m.kind = 1
  · simp only [h1]
    cases inS m.fr <;> cases inS m.to <;> cases inS m.co <;> by_cases hf : m.feed = 0 <;> simp [hf] <;> by_cases q1 : m.fr = m.to <;> by_cases q2 : m.co = ⟨0, 0, 0⟩ <;> simp [q1, q2] <;> omega
  · by_cases h2 : m.kind = 2
    · simp only [h2]
      cases inS m.fr <;> cases inS m.to <;> cases inS m.co <;> by_cases hf : m.feed < 1 <;> by_cases hg : 100 < m.feed <;> simp [hf, hg] <;> by_cases q1 : m.fr = m.to <;> by_cases q2 : m.co = ⟨0, 0, 0⟩ <;> simp [q1, q2]
    · by_cases h3 : m.kind = 3
      · simp only [h3]
        cases inS m.fr <;> cases inS m.to <;> cases inS m.co <;> by_cases hf : m.feed < 1 <;> by_cases hg : 100 < m.feed <;> simp [hf, hg]
        cases h4 : quarterS m
        · simp
        · simp [hq h4]
      · rw [if_pos (by omega), if_neg h1, if_neg h2, if_neg h3]
end Go.Proofs.YteommcdafifckaaDoor

/-! Walks: M2. -/
namespace Go.Proofs.YteommcdafifckaaDoor
open Go.RowKit
set_option maxRecDepth 100000

theorem gS_le {n : Nat} {v : V3} (h : Bd n v) : gS v ≤ n := by
  obtain ⟨h1, h2, h3⟩ := gS_dvd v
  rw [Int.ofNat_dvd_left] at h1 h2 h3
  have := h.x; have := h.y; have := h.z
  by_cases hx : v.x = 0
  · by_cases hy : v.y = 0
    · by_cases hz : v.z = 0
      · rw [gS_eq, hx, hy, hz]; simp
      · have := Nat.le_of_dvd (by omega) h3; omega
    · have := Nat.le_of_dvd (by omega) h2; omega
  · have := Nat.le_of_dvd (by omega) h1; omega
theorem InM.a48 {m : Mv} (h : InM m) : Bd 48 (sA m) := h.co.sub h.to
theorem InM.b48 {m : Mv} (h : InM m) : Bd 48 (sB m) := h.co.sub h.fr
def dS (m : Mv) : V3 := sub m.to m.fr
theorem InM.d48 {m : Mv} (h : InM m) : Bd 48 (dS m) := h.to.sub h.fr
def cenS (m : Mv) : V3 := plus m.fr (primV (sA m)) (-(gS (sA m) : Int))
theorem InM.c {m : Mv} (h : InM m) : Bd 100 (cenS m) := by
  obtain ⟨h1, h2, h3⟩ := prim_mul (sA m)
  have := h.a48.x; have := h.a48.y; have := h.a48.z; have := h.fr.x; have := h.fr.y; have := h.fr.z
  exact ⟨by simp only [cenS, plus, Int.neg_mul]; rw [← h1]; omega, by simp only [cenS, plus, Int.neg_mul]; rw [← h2]; omega, by simp only [cenS, plus, Int.neg_mul]; rw [← h3]; omega⟩
/-- The steps of a line, and of an arc, as far as they have come. -/
def linQ (fr b : V3) (k : Nat) : List V3 := (List.range k).map fun (j : Nat) => plus fr b j
theorem linQ_succ (fr b : V3) (k : Nat) : linQ fr b (k + 1) = linQ fr b k ++ [plus fr b k] := by simp [linQ, List.range_succ]
theorem linQ_len (fr b : V3) (k : Nat) : (linQ fr b k).length = k := by simp [linQ]
theorem linQ_at {fr b : V3} {k n : Nat} (h : k < n) : (linQ fr b n)[k]? = some (plus fr b k) := by simp [linQ, h]
def dn (r j : Nat) : Nat → Nat
  | 0 => 0
  | i + 1 => if r * r < (i + 1) * (i + 1) + j * j then dn r j i else i + 1
def iP (r : Nat) : Nat → Nat
  | 0 => r
  | j + 1 => dn r j (iP r j)
theorem dn_le (r j : Nat) : ∀ i, dn r j i ≤ i
  | 0 => Nat.le_refl _
  | i + 1 => by
    unfold dn
    split
    · exact Nat.le_trans (dn_le r j i) (by omega)
    · exact Nat.le_refl _
theorem iP_le (r : Nat) : ∀ j, iP r j ≤ r
  | 0 => Nat.le_refl _
  | j + 1 => Nat.le_trans (dn_le r j _) (iP_le r j)
theorem dn_stop {r j i : Nat} (h : ¬ r * r < i * i + j * j) : dn r j i = i := by
  cases i with
  | zero => rfl
  | succ i => unfold dn; rw [if_neg h]
theorem dn_next {r j i : Nat} (h : r * r < (i + 1) * (i + 1) + j * j) : dn r j (i + 1) = dn r j i := by
  conv => lhs; unfold dn
  rw [if_pos h]
def arcQ (r n : Nat) : List (Nat × Nat) := (List.range n).filterMap fun j => if iP r (j + 1) * iP r (j + 1) + j * j = r * r then some (iP r (j + 1), j) else none
def arcV (c a b : V3) (r n : Nat) : List V3 := (arcQ r n).map fun p => plus (plus c a p.1) b p.2
theorem arcQ_t {r j i : Nat} (hi : iP r (j + 1) = i) (h : i * i + j * j = r * r) : arcQ r (j + 1) = arcQ r j ++ [(i, j)] := by
  unfold arcQ
  rw [List.range_succ, List.filterMap_append]
  simp [hi, h]
theorem arcQ_f {r j i : Nat} (hi : iP r (j + 1) = i) (h : ¬ i * i + j * j = r * r) : arcQ r (j + 1) = arcQ r j := by
  unfold arcQ
  rw [List.range_succ, List.filterMap_append]
  simp [hi, h]
theorem arcV_t {c a b : V3} {r j i : Nat} (hi : iP r (j + 1) = i) (h : i * i + j * j = r * r) : arcV c a b r (j + 1) = arcV c a b r j ++ [plus (plus c a i) b j] := by
  unfold arcV; rw [arcQ_t hi h, List.map_append]; rfl
theorem arcV_f {c a b : V3} {r j i : Nat} (hi : iP r (j + 1) = i) (h : ¬ i * i + j * j = r * r) : arcV c a b r (j + 1) = arcV c a b r j := by
  unfold arcV; rw [arcQ_f hi h]
theorem arcV_len (c a b : V3) (r : Nat) : ∀ n, (arcV c a b r n).length ≤ n
  | 0 => Nat.le_refl _
  | n + 1 => by
    have := arcV_len c a b r n
    by_cases h : iP r (n + 1) * iP r (n + 1) + n * n = r * r
    · rw [arcV_t rfl h]; simp; omega
    · rw [arcV_f rfl h]; omega
theorem arcV_pre (c a b : V3) (r n : Nat) {k : Nat} {v : V3} (h : (arcV c a b r n)[k]? = some v) : ∀ m, n ≤ m → (arcV c a b r m)[k]? = some v := by
  intro m hm
  induction m with
  | zero => obtain rfl : n = 0 := by omega
            exact h
  | succ m ih =>
    by_cases e : n = m + 1
    · rw [← e]; exact h
    · have h1 := ih (by omega)
      by_cases hc : iP r (m + 1) * iP r (m + 1) + m * m = r * r
      · rw [arcV_t rfl hc, List.getElem?_append_left (lt_of_at h1)]; exact h1
      · rw [arcV_f rfl hc]; exact h1
theorem sqW {i : Nat} (h : i ≤ 1000) : W ((i : Int) * (i : Int)) = ((i * i : Nat) : Int) := by
  have : i * i ≤ 1000 * 1000 := Nat.mul_le_mul h h
  rw [W_eq (by rw [← Int.natCast_mul]; omega), Int.natCast_mul]
def pathS (m : Mv) : List V3 := if checkS m = 0 then (if m.kind = 3 then arcV (cenS m) (primV (sA m)) (primV (sB m)) (gS (sA m)) (gS (sA m) + 1) else linQ m.fr (primV (dS m)) (gS (dS m) + 1)) else []
theorem ck_in {m : Mv} (h : checkS m = 0) : InM m := by
  have key : ∀ lo hi, ¬ rangeB lo hi m = true → InM m := fun lo hi h => by
    unfold rangeB at h
    simp only [Bool.not_eq_true, Bool.or_eq_false_iff] at h
    exact inM_of h.1 h.2.1 h.2.2.1
  unfold checkS at h
  split at h
  · split at h
    · cases h
    · exact key _ _ ‹_›
  · split at h
    · split at h
      · cases h
      · exact key _ _ ‹_›
    · split at h
      · split at h
        · cases h
        · exact key _ _ ‹_›
      · cases h
theorem ck_n {m : Mv} (h : ¬ m.kind = 1 ∧ ¬ m.kind = 2 ∧ ¬ m.kind = 3) : checkS m = 16 := by unfold checkS; rw [if_neg h.1, if_neg h.2.1, if_neg h.2.2]
theorem ck_fit {m : Mv} (h : checkS m = 0) (h3 : m.kind = 3) : fitsA m = true := by
  unfold checkS at h
  rw [if_neg (by omega), if_neg (by omega), if_pos h3] at h
  split at h
  · cases h
  · split at h
    · assumption
    · cases h

def mc76 : MC := (.seq (.reg [⟨(some 1), (.box 87 11 (.t 0)), none, []⟩, ⟨(some 2), (.mv (.c .nilf)), none, []⟩] false) (.seq (.reg [⟨(some 6), (.fa 0 (.t 1)), none, []⟩, ⟨(some 7), (.fa 4 (.t 6)), none, [0]⟩, ⟨(some 8), (.ld true 3 (.t 7)), none, [1]⟩, ⟨(some 9), (.fa 0 (.t 1)), none, []⟩, ⟨(some 10), (.fa 1 (.t 9)), none, [3]⟩, ⟨(some 11), (.ld true 3 (.t 10)), none, [4]⟩, ⟨(some 12), (.call 22 [(.t 8), (.t 11)]), none, [2, 5]⟩, ⟨(some 13), (.call 74 [(.t 12)]), none, [6, 6]⟩, ⟨(some 5), (.mv (.t 13)), none, [7]⟩, ⟨(some 14), (.ext (.t 5) 0), none, [8]⟩, ⟨(some 15), (.ext (.t 5) 1), none, [8]⟩, ⟨(some 3), (.alloc 26 3 [(.int .i64 0), (.int .i64 0), (.int .i64 0)]), none, []⟩, ⟨(some 4), (.alloc 3 1 [(.int .i64 0)]), none, []⟩, ⟨none, (.st 3 (.t 3) (.t 14)), none, [11, 9, 7, 0, 1, 2, 3, 4, 5, 6, 7, 8, 9, 11, 12]⟩, ⟨none, (.st 1 (.t 4) (.t 15)), none, [12, 10, 13, 0, 1, 2, 3, 4, 5, 6, 7, 8, 9, 10, 11, 12, 13]⟩] false) (.seq (.reg [⟨(some 16), (.mkfn (.func 75) [(.t 4), (.t 1), (.t 3)]), none, []⟩, ⟨(some 2), (.mv (.t 16)), none, [0, 0]⟩] false) .ret)))
theorem mcOk76 : (match Tryd.f73.body with | some c => compC Tryd.prog 17 c | none => none) = some mc76 := by kernel_rfl

theorem fc76 (m : Mv) (h : InM m) : FC Tryd.prog 73 [aM m] [] (.fn (.func 75) [.rp [iv (gS (dS m) : Int)], .rp (cM m), .rp (cV (primV (dS m)))]) [] false := by
  refine fc_run (nt := 17) Tryd.func73 rfl rfl mcOk76 (Nat.le_of_ble_eq_true rfl) ?_
  delta mc76
  refine aw_seq ?_
  refine aw_reg ?_
  refine rs_box rfl rfl rfl rfl rfl rfl ?_
  refine rs_mv rfl rfl ?_
  refine rs_nil fun _ => ?_
  refine th_n ?_
  refine aw_seq ?_
  refine aw_reg ?_
  refine rs_fa_p rfl rfl ?_
  refine rs_fa_p rfl rfl ?_
  refine rs_ld_pa rfl rfl rfl rfl (Nat.le_of_ble_eq_true rfl) rfl ?_
  refine rs_fa_p rfl rfl ?_
  refine rs_fa_p rfl rfl ?_
  refine rs_ld_pa rfl rfl rfl rfl (Nat.le_of_ble_eq_true rfl) rfl ?_
  refine rs_calln [] rfl rfl (fc27s h.to.big h.fr.big) (.cons (hv_same rfl) (.cons (hv_same rfl) (.nil))) rfl ?_
  refine rs_calln [] rfl rfl (fc29 (dS m) h.d48.big) (.cons (hv_same rfl) (.nil)) rfl ?_
  refine rs_mv rfl rfl ?_
  refine rs_ext rfl rfl rfl ?_
  refine rs_ext rfl rfl rfl ?_
  refine rs_alloc rfl rfl rfl ?_
  refine rs_alloc rfl rfl rfl ?_
  refine rs_st rfl rfl rfl rfl rfl rfl rfl (Nat.le_of_ble_eq_true rfl) rfl rfl ?_
  refine rs_st rfl rfl rfl rfl rfl rfl rfl (Nat.le_of_ble_eq_true rfl) rfl rfl ?_
  refine rs_nil fun _ => ?_
  refine th_n ?_
  refine aw_seq ?_
  refine aw_reg ?_
  refine rs_mkfn rfl rfl ?_
  refine rs_mv rfl rfl ?_
  refine rs_nil fun _ => ?_
  refine th_n ?_
  refine aw_ret ?_
  exact ret_new rfl (rc_fnr (.cons (rc_pfrz rfl rfl (.inr rfl)) (.cons (rc_pfrz rfl rfl (.inr rfl)) (.cons (rc_pfrz rfl rfl (.inr rfl)) .nil)))) .nil

def mc82 : MC := (.seq (.reg [⟨(some 1), (.box 88 11 (.t 0)), none, []⟩, ⟨(some 2), (.mv (.c .nilf)), none, []⟩] false) (.seq (.reg [⟨(some 9), (.ld true 11 (.t 1)), none, []⟩, ⟨(some 10), (.call 83 [(.t 9)]), none, [0]⟩, ⟨(some 8), (.mv (.t 10)), none, [1]⟩, ⟨(some 11), (.ext (.t 8) 0), none, [2]⟩, ⟨(some 12), (.ext (.t 8) 1), none, [2]⟩, ⟨(some 13), (.ext (.t 8) 2), none, [2]⟩, ⟨(some 14), (.ext (.t 8) 3), none, [2]⟩, ⟨(some 3), (.alloc 26 3 [(.int .i64 0), (.int .i64 0), (.int .i64 0)]), none, []⟩, ⟨(some 4), (.alloc 26 3 [(.int .i64 0), (.int .i64 0), (.int .i64 0)]), none, []⟩, ⟨(some 5), (.alloc 3 1 [(.int .i64 0)]), none, []⟩, ⟨none, (.st 3 (.t 3) (.t 11)), none, [7, 3, 1, 0, 1, 2, 3, 7, 8, 9]⟩, ⟨none, (.st 3 (.t 4) (.t 12)), none, [8, 4, 10, 0, 1, 2, 3, 4, 7, 8, 9, 10]⟩, ⟨none, (.st 1 (.t 5) (.t 13)), none, [9, 5, 11, 0, 1, 2, 3, 4, 5, 7, 8, 9, 10, 11]⟩, ⟨(some 6), (.mv (.t 14)), none, [6, 12, 0, 1, 2, 3, 4, 5, 6, 7, 8, 9, 10, 11, 12]⟩] false) (.seq (.reg [⟨(some 15), (.fa 0 (.t 1)), none, []⟩, ⟨(some 16), (.fa 1 (.t 15)), none, [0]⟩, ⟨(some 17), (.ld true 3 (.t 16)), none, [1]⟩, ⟨(some 18), (.ld true 3 (.t 3)), none, []⟩, ⟨(some 19), (.ld false 1 (.t 5)), none, []⟩, ⟨(some 20), (.un .neg (.t 19)), none, [4]⟩, ⟨(some 21), (.call 76 [(.t 17), (.t 18), (.t 20)]), none, [2, 3, 5]⟩, ⟨(some 7), (.alloc 26 3 [(.int .i64 0), (.int .i64 0), (.int .i64 0)]), none, []⟩, ⟨none, (.st 3 (.t 7) (.t 21)), none, [7, 6, 6, 0, 1, 2, 3, 4, 5, 6, 7]⟩] false) (.seq (.reg [⟨(some 22), (.mkfn (.func 85) [(.t 5), (.t 7), (.t 3), (.t 4)]), none, []⟩, ⟨(some 2), (.mv (.t 22)), none, [0, 0]⟩] false) .ret))))
theorem mcOk82 : (match Tryd.f82.body with | some c => compC Tryd.prog 23 c | none => none) = some mc82 := by kernel_rfl

theorem fc82 (m : Mv) (h : InM m) : FC Tryd.prog 82 [aM m] [] (.fn (.func 85) [.rp [iv (gS (sA m) : Int)], .rp (cV (cenS m)), .rp (cV (primV (sA m))), .rp (cV (primV (sB m)))]) [] false := by
  have hr := gS_le (n := 48) h.a48
  refine fc_run (nt := 23) Tryd.func82 rfl rfl mcOk82 (Nat.le_of_ble_eq_true rfl) ?_
  delta mc82
  refine aw_seq ?_
  refine aw_reg ?_
  refine rs_box rfl rfl rfl rfl rfl rfl ?_
  refine rs_mv rfl rfl ?_
  refine rs_nil fun _ => ?_
  refine th_n ?_
  refine aw_seq ?_
  refine aw_reg ?_
  refine rs_ld_pa rfl rfl rfl rfl (Nat.le_of_ble_eq_true rfl) rfl ?_
  refine rs_calln [] rfl rfl (fc83 m h) (.cons (hv_same rfl) (.nil)) rfl ?_
  refine rs_mv rfl rfl ?_
  refine rs_ext rfl rfl rfl ?_
  refine rs_ext rfl rfl rfl ?_
  refine rs_ext rfl rfl rfl ?_
  refine rs_ext rfl rfl rfl ?_
  refine rs_alloc rfl rfl rfl ?_
  refine rs_alloc rfl rfl rfl ?_
  refine rs_alloc rfl rfl rfl ?_
  refine rs_st rfl rfl rfl rfl rfl rfl rfl (Nat.le_of_ble_eq_true rfl) rfl rfl ?_
  refine rs_st rfl rfl rfl rfl rfl rfl rfl (Nat.le_of_ble_eq_true rfl) rfl rfl ?_
  refine rs_st rfl rfl rfl rfl rfl rfl rfl (Nat.le_of_ble_eq_true rfl) rfl rfl ?_
  refine rs_mv rfl rfl ?_
  refine rs_nil fun _ => ?_
  refine th_n ?_
  refine aw_seq ?_
  refine aw_reg ?_
  refine rs_fa_p rfl rfl ?_
  refine rs_fa_p rfl rfl ?_
  refine rs_ld_pa rfl rfl rfl rfl (Nat.le_of_ble_eq_true rfl) rfl ?_
  refine rs_ld_pa rfl rfl rfl rfl (Nat.le_of_ble_eq_true rfl) rfl ?_
  refine rs_ld_p rfl rfl rfl rfl rfl ?_
  refine rs_neg rfl rfl (by omega) ?_
  refine rs_calln [] rfl rfl (fc78s h.fr.big (prim_bd h.a48).big (by omega)) (.cons (hv_same rfl) (.cons (hv_same rfl) (.cons (hv_same rfl) (.nil)))) rfl ?_
  refine rs_alloc rfl rfl rfl ?_
  refine rs_st rfl rfl rfl rfl rfl rfl rfl (Nat.le_of_ble_eq_true rfl) rfl rfl ?_
  refine rs_nil fun _ => ?_
  refine th_n ?_
  refine aw_seq ?_
  refine aw_reg ?_
  refine rs_mkfn rfl rfl ?_
  refine rs_mv rfl rfl ?_
  refine rs_nil fun _ => ?_
  refine th_n ?_
  refine aw_ret ?_
  exact ret_new rfl (rc_fnr (.cons (rc_pfrz rfl rfl (.inr rfl)) (.cons (rc_pfrz rfl rfl (.inr rfl)) (.cons (rc_pfrz rfl rfl (.inr rfl)) (.cons (rc_pfrz rfl rfl (.inr rfl)) .nil))))) .nil

def as56 : MC := (.reg [⟨(some 5), (.alloc 26 3 [(.int .i64 0), (.int .i64 0), (.int .i64 0)]), none, []⟩, ⟨none, (.st 3 (.t 5) (.t 7)), none, [0, 0]⟩] false)
def bd56 : MC := (.block 1 (.reg [⟨(some 8), (.ld false 1 (.t 2)), none, []⟩, ⟨(some 9), (.ld true 3 (.t 5)), none, []⟩, ⟨(some 10), (.bslice 26 3 [(.int .i64 0), (.int .i64 0), (.int .i64 0)] 1 [(0, (.t 9))]), none, [1]⟩, ⟨(some 11), (.app 26 3 24 [(.int .i64 0), (.int .i64 0), (.int .i64 0)] (.t 8) (.t 10)), none, [0, 2]⟩, ⟨none, (.st 1 (.t 2) (.t 11)), none, [3, 3, 0, 1, 2, 3]⟩] false))

theorem as56w (g : AV) (hg : ∀ D, scopedV D g = true) (l : List V3) (v : V3) (o : Loop) (lb : Nat) : AW Tryd.prog 13 [900, 2, 903] (some lb) as56 (fun e F' H' => e = .normal ∧ Weak 13 [900, 2, 903] F' H' [(2, .ptr 2 0 0), (5, .ptr 5 0 0)] [(900, .lp o [(6, g), (2, .ptr 2 0 0)]), (2, .cells 40 1 [[.sl 903 0 (l).length]] false), (903, .cells 26 3 ((l).map cV) true), (5, .cells 26 3 [cV v] true)]) [(7, aV v), (6, g), (2, .ptr 2 0 0)] [(900, .lp o [(6, g), (2, .ptr 2 0 0)]), (2, .cells 40 1 [[.sl 903 0 (l).length]] false), (903, .cells 26 3 ((l).map cV) true)] := by
  delta as56
  refine aw_reg ?_
  refine rs_alloc rfl rfl rfl ?_
  refine rs_st rfl rfl rfl rfl rfl rfl rfl (Nat.le_of_ble_eq_true rfl) rfl rfl ?_
  refine rs_nil fun _ => ?_
  exact ⟨rfl, weak_to (.cons rfl (rc_same rfl (.inl rfl)) (.cons rfl (rc_same rfl (.inl rfl)) (.nil))) (.keep rfl (by simp [scopedOb, scopedL, scopedV, hg, keysOf]) (.keep rfl (rfl) (.keep rfl (rfl) (.keep rfl (rfl) (.nil))))) (fun i hi => by simp [keysOf] at hi ⊢; omega)⟩

theorem bd56w (g : AV) (hg : ∀ D, scopedV D g = true) (l : List V3) (hl : l.length ≤ 1000) (v : V3) (o : Loop) (lb : Nat) : AW Tryd.prog 13 [900, 2, 903] (some lb) bd56 (fun e F' H' => e = .normal ∧ Weak 13 [900, 2, 903] F' H' [] [(900, .lp o [(6, g), (2, .ptr 2 0 0)]), (2, .cells 40 1 [[.sl 11 0 (l ++ [v]).length]] false), (11, .cells 26 3 ((l ++ [v]).map cV) true), (903, .dead)]) [(2, .ptr 2 0 0), (5, .ptr 5 0 0)] [(900, .lp o [(6, g), (2, .ptr 2 0 0)]), (2, .cells 40 1 [[.sl 903 0 (l).length]] false), (903, .cells 26 3 ((l).map cV) true), (5, .cells 26 3 [cV v] true)] := by
  delta bd56
  refine aw_block ?_
  refine aw_reg ?_
  refine rs_ld_p rfl rfl rfl rfl rfl ?_
  refine rs_ld_pa rfl rfl rfl rfl (Nat.le_of_ble_eq_true rfl) rfl ?_
  refine rs_bslice rfl rfl rfl rfl rfl rfl ?_
  refine rs_app_m (f := cV) (xs := l) (y := v) rfl rfl rfl rfl rfl rfl rfl rfl (by decide) rfl (by omega) (by omega) rfl ?_
  refine rs_st rfl rfl rfl rfl rfl rfl rfl (Nat.le_of_ble_eq_true rfl) rfl rfl ?_
  refine rs_nil fun _ => ?_
  refine in_n ?_
  rw [show l.length + 1 = (l ++ [v]).length by simp]
  exact ⟨rfl, weak_to (.nil) (.keep rfl (by simp [scopedOb, scopedL, scopedV, hg, keysOf]) (.keep rfl (rfl) (.keep rfl (rfl) (.keep rfl (rfl) (.nil))))) (fun i hi => by simp [keysOf] at hi ⊢; omega)⟩

theorem y56 (g : AV) (hg : ∀ D, scopedV D g = true) (l : List V3) (hl : l.length ≤ 1000) (v : V3) (r0 : Loop) (h : Rec0 Tryd.prog 13 [7] as56 bd56 r0) :
    FCg (yieldSem Tryd.prog) [.yl 900, aV v] [(900, .lp r0 [(6, g), (2, .ptr 2 0 0)]), (2, .cells 40 1 [[.sl 903 0 (l).length]] false), (903, .cells 26 3 ((l).map cV) true)] (.bool true) [(900, .lp r0 [(6, g), (2, .ptr 2 0 0)]), (2, .cells 40 1 [[.sl 11 0 (l ++ [v]).length]] false), (11, .cells 26 3 ((l ++ [v]).map cV) true), (903, .dead)] true := by
  have := round_yield (P := Tryd.prog) (F := [(6, g), (2, .ptr 2 0 0)]) (N := 13) (x := as56) (y := bd56) h.ca h.cb (li := 900) (ps := [7]) (vs := [aV v]) (J := [(2, .cells 40 1 [[.sl 903 0 (l).length]] false), (903, .cells 26 3 ((l).map cV) true)]) (J1 := [(2, .cells 40 1 [[.sl 903 0 (l).length]] false), (903, .cells 26 3 ((l).map cV) true), (5, .cells 26 3 [cV v] true)]) (J' := [(2, .cells 40 1 [[.sl 11 0 (l ++ [v]).length]] false), (11, .cells 26 3 ((l ++ [v]).map cV) true), (903, .dead)]) (Fb := [(2, .ptr 2 0 0), (5, .ptr 5 0 0)]) (Z0 := [900, 2, 903]) .normal none (.inl ⟨rfl, rfl⟩)
    rfl rfl (fun i hi => mem_keys.1 hi) (by simp) (fun i h => mem_keys.2 h) (fun i hi => mem_keys.1 (by simp [keysOf] at hi ⊢; omega)) h.state h.params rfl rfl h.size (fun t v h => get_mem h) (fun lb o => as56w g hg l v o lb) (fun lb o => bd56w g hg l hl v o lb)
  rw [rec_same h.state h.pending] at this
  exact this

def as17 : MC := (.reg [⟨(some 7), (.alloc 26 3 [(.int .i64 0), (.int .i64 0), (.int .i64 0)]), none, []⟩, ⟨none, (.st 3 (.t 7) (.t 15)), none, [0, 0]⟩] false)
def bd17 : MC := (.block 1 (.seq (.seq (.reg [⟨(some 16), (.ld false 1 (.t 6)), none, []⟩, ⟨(some 17), (.ld false 1 (.t 3)), none, []⟩, ⟨(some 18), (.bin .eql (.t 16) (.t 17)), none, [0, 1]⟩] false) (.cond (.t 18) (.seq (.reg [⟨(some 19), (.ld true 3 (.t 7)), none, []⟩, ⟨none, (.st 3 (.t 4) (.t 19)), none, [0, 0]⟩, ⟨none, (.st 1 (.t 5) (.c (.bool true))), none, [1, 0, 1]⟩] false) .ret) .skip)) (.reg [⟨(some 20), (.ld false 1 (.t 6)), none, []⟩, ⟨(some 21), (.bin .add (.t 20) (.c (.int .i64 1))), none, [0]⟩, ⟨none, (.st 1 (.t 6) (.t 21)), none, [1, 0, 1]⟩] false)))

theorem as17w (g : AV) (hg : ∀ D, scopedV D g = true) (step : Int) (k : Nat) (v : V3) (o : Loop) (lb : Nat) : AW Tryd.prog 23 [900, 6, 3, 4, 5] (some lb) as17 (fun e F' H' => e = .normal ∧ Weak 23 [900, 6, 3, 4, 5] F' H' [(6, .ptr 6 0 0), (3, .ptr 3 0 0), (4, .ptr 4 0 0), (5, .ptr 5 0 0), (7, .ptr 7 0 0)] [(900, .lp o [(14, g), (6, .ptr 6 0 0), (3, .ptr 3 0 0), (4, .ptr 4 0 0), (5, .ptr 5 0 0)]), (6, .cells 3 1 [[iv (((k) : Nat) : Int)]] true), (3, .cells 3 1 [[iv step]] true), (4, .cells 26 3 [cV ⟨0, 0, 0⟩] true), (5, .cells 4 1 [[.bool false]] true), (7, .cells 26 3 [cV v] true)]) [(15, aV v), (14, g), (6, .ptr 6 0 0), (3, .ptr 3 0 0), (4, .ptr 4 0 0), (5, .ptr 5 0 0)] [(900, .lp o [(14, g), (6, .ptr 6 0 0), (3, .ptr 3 0 0), (4, .ptr 4 0 0), (5, .ptr 5 0 0)]), (6, .cells 3 1 [[iv (((k) : Nat) : Int)]] true), (3, .cells 3 1 [[iv step]] true), (4, .cells 26 3 [cV ⟨0, 0, 0⟩] true), (5, .cells 4 1 [[.bool false]] true)] := by
  delta as17
  refine aw_reg ?_
  refine rs_alloc rfl rfl rfl ?_
  refine rs_st rfl rfl rfl rfl rfl rfl rfl (Nat.le_of_ble_eq_true rfl) rfl rfl ?_
  refine rs_nil fun _ => ?_
  exact ⟨rfl, weak_to (.cons rfl (rc_same rfl (.inl rfl)) (.cons rfl (rc_same rfl (.inl rfl)) (.cons rfl (rc_same rfl (.inl rfl)) (.cons rfl (rc_same rfl (.inl rfl)) (.cons rfl (rc_same rfl (.inl rfl)) (.nil)))))) (.keep rfl (by simp [scopedOb, scopedL, scopedV, hg, keysOf]) (.keep rfl (rfl) (.keep rfl (rfl) (.keep rfl (rfl) (.keep rfl (rfl) (.keep rfl (rfl) (.nil))))))) (fun i hi => by simp [keysOf] at hi ⊢; omega)⟩

theorem bd17w_n (g : AV) (hg : ∀ D, scopedV D g = true) (step : Int) (k : Nat) (hk : k ≤ 1000) (hs : (k : Int) ≠ step) (v : V3) (o : Loop) (lb : Nat) : AW Tryd.prog 23 [900, 6, 3, 4, 5] (some lb) bd17 (fun e F' H' => e = .normal ∧ Weak 23 [900, 6, 3, 4, 5] F' H' [] [(900, .lp o [(14, g), (6, .ptr 6 0 0), (3, .ptr 3 0 0), (4, .ptr 4 0 0), (5, .ptr 5 0 0)]), (6, .cells 3 1 [[iv (((k + 1) : Nat) : Int)]] true), (3, .cells 3 1 [[iv step]] true), (4, .cells 26 3 [cV ⟨0, 0, 0⟩] true), (5, .cells 4 1 [[.bool false]] true)]) [(6, .ptr 6 0 0), (3, .ptr 3 0 0), (4, .ptr 4 0 0), (5, .ptr 5 0 0), (7, .ptr 7 0 0)] [(900, .lp o [(14, g), (6, .ptr 6 0 0), (3, .ptr 3 0 0), (4, .ptr 4 0 0), (5, .ptr 5 0 0)]), (6, .cells 3 1 [[iv (((k) : Nat) : Int)]] true), (3, .cells 3 1 [[iv step]] true), (4, .cells 26 3 [cV ⟨0, 0, 0⟩] true), (5, .cells 4 1 [[.bool false]] true), (7, .cells 26 3 [cV v] true)] := by
  delta bd17
  refine aw_block ?_
  refine aw_seq ?_
  refine aw_seq ?_
  refine aw_reg ?_
  refine rs_ld_p rfl rfl rfl rfl rfl ?_
  refine rs_ld_p rfl rfl rfl rfl rfl ?_
  refine rs_cmp_f rfl rfl rfl rfl hs ?_
  refine rs_nil fun _ => ?_
  refine th_n ?_
  refine aw_cond rfl (fun h => by cases h) (fun _ => ?_)
  refine aw_skip ?_
  refine th_n ?_
  refine aw_reg ?_
  refine rs_ld_p rfl rfl rfl rfl rfl ?_
  refine rs_add rfl rfl rfl (by omega) ?_
  refine rs_st rfl rfl rfl rfl rfl rfl rfl (Nat.le_of_ble_eq_true rfl) rfl rfl ?_
  refine rs_nil fun _ => ?_
  refine in_n ?_
  rw [show (k : Int) + 1 = ((k + 1 : Nat) : Int) by omega]
  exact ⟨rfl, weak_to (.nil) (.keep rfl (by simp [scopedOb, scopedL, scopedV, hg, keysOf]) (.keep rfl (rfl) (.keep rfl (rfl) (.keep rfl (rfl) (.keep rfl (rfl) (.nil)))))) (fun i hi => by simp [keysOf] at hi ⊢; omega)⟩

theorem y17_n (g : AV) (hg : ∀ D, scopedV D g = true) (step : Int) (k : Nat) (hk : k ≤ 1000) (hs : (k : Int) ≠ step) (v : V3) (r0 : Loop) (h : Rec0 Tryd.prog 23 [15] as17 bd17 r0) :
    FCg (yieldSem Tryd.prog) [.yl 900, aV v] [(900, .lp r0 [(14, g), (6, .ptr 6 0 0), (3, .ptr 3 0 0), (4, .ptr 4 0 0), (5, .ptr 5 0 0)]), (6, .cells 3 1 [[iv (((k) : Nat) : Int)]] true), (3, .cells 3 1 [[iv step]] true), (4, .cells 26 3 [cV ⟨0, 0, 0⟩] true), (5, .cells 4 1 [[.bool false]] true)] (.bool true) [(900, .lp r0 [(14, g), (6, .ptr 6 0 0), (3, .ptr 3 0 0), (4, .ptr 4 0 0), (5, .ptr 5 0 0)]), (6, .cells 3 1 [[iv (((k + 1) : Nat) : Int)]] true), (3, .cells 3 1 [[iv step]] true), (4, .cells 26 3 [cV ⟨0, 0, 0⟩] true), (5, .cells 4 1 [[.bool false]] true)] true := by
  have := round_yield (P := Tryd.prog) (F := [(14, g), (6, .ptr 6 0 0), (3, .ptr 3 0 0), (4, .ptr 4 0 0), (5, .ptr 5 0 0)]) (N := 23) (x := as17) (y := bd17) h.ca h.cb (li := 900) (ps := [15]) (vs := [aV v]) (J := [(6, .cells 3 1 [[iv (((k) : Nat) : Int)]] true), (3, .cells 3 1 [[iv step]] true), (4, .cells 26 3 [cV ⟨0, 0, 0⟩] true), (5, .cells 4 1 [[.bool false]] true)]) (J1 := [(6, .cells 3 1 [[iv (((k) : Nat) : Int)]] true), (3, .cells 3 1 [[iv step]] true), (4, .cells 26 3 [cV ⟨0, 0, 0⟩] true), (5, .cells 4 1 [[.bool false]] true), (7, .cells 26 3 [cV v] true)]) (J' := [(6, .cells 3 1 [[iv (((k + 1) : Nat) : Int)]] true), (3, .cells 3 1 [[iv step]] true), (4, .cells 26 3 [cV ⟨0, 0, 0⟩] true), (5, .cells 4 1 [[.bool false]] true)]) (Fb := [(6, .ptr 6 0 0), (3, .ptr 3 0 0), (4, .ptr 4 0 0), (5, .ptr 5 0 0), (7, .ptr 7 0 0)]) (Z0 := [900, 6, 3, 4, 5]) .normal none (.inl ⟨rfl, rfl⟩)
    rfl rfl (fun i hi => mem_keys.1 hi) (by simp) (fun i h => mem_keys.2 h) (fun i hi => mem_keys.1 (by simp [keysOf] at hi ⊢; omega)) h.state h.params rfl rfl h.size (fun t v h => get_mem h) (fun lb o => as17w g hg step k v o lb) (fun lb o => bd17w_n g hg step k hk hs v o lb)
  rw [rec_same h.state h.pending] at this
  exact this

theorem bd17w_s (g : AV) (hg : ∀ D, scopedV D g = true) (step : Int) (k : Nat) (hk : k ≤ 1000) (hs : (k : Int) = step) (v : V3) (o : Loop) (lb : Nat) : AW Tryd.prog 23 [900, 6, 3, 4, 5] (some lb) bd17 (fun e F' H' => e = .ret ∧ Weak 23 [900, 6, 3, 4, 5] F' H' [] [(900, .lp o [(14, g), (6, .ptr 6 0 0), (3, .ptr 3 0 0), (4, .ptr 4 0 0), (5, .ptr 5 0 0)]), (6, .cells 3 1 [[iv (((k) : Nat) : Int)]] true), (3, .cells 3 1 [[iv step]] true), (4, .cells 26 3 [cV v] true), (5, .cells 4 1 [[.bool true]] true)]) [(6, .ptr 6 0 0), (3, .ptr 3 0 0), (4, .ptr 4 0 0), (5, .ptr 5 0 0), (7, .ptr 7 0 0)] [(900, .lp o [(14, g), (6, .ptr 6 0 0), (3, .ptr 3 0 0), (4, .ptr 4 0 0), (5, .ptr 5 0 0)]), (6, .cells 3 1 [[iv (((k) : Nat) : Int)]] true), (3, .cells 3 1 [[iv step]] true), (4, .cells 26 3 [cV ⟨0, 0, 0⟩] true), (5, .cells 4 1 [[.bool false]] true), (7, .cells 26 3 [cV v] true)] := by
  delta bd17
  refine aw_block ?_
  refine aw_seq ?_
  refine aw_seq ?_
  refine aw_reg ?_
  refine rs_ld_p rfl rfl rfl rfl rfl ?_
  refine rs_ld_p rfl rfl rfl rfl rfl ?_
  refine rs_cmp_t rfl rfl rfl rfl hs ?_
  refine rs_nil fun _ => ?_
  refine th_n ?_
  refine aw_cond rfl (fun _ => ?_) (fun h => by cases h)
  refine aw_seq ?_
  refine aw_reg ?_
  refine rs_ld_pa rfl rfl rfl rfl (Nat.le_of_ble_eq_true rfl) rfl ?_
  refine rs_st rfl rfl rfl rfl rfl rfl rfl (Nat.le_of_ble_eq_true rfl) rfl rfl ?_
  refine rs_st rfl rfl rfl rfl rfl rfl rfl (Nat.le_of_ble_eq_true rfl) rfl rfl ?_
  refine rs_nil fun _ => ?_
  refine th_n ?_
  refine aw_ret ?_
  refine th_r ?_
  refine in_r ?_
  exact ⟨rfl, weak_to (.nil) (.keep rfl (by simp [scopedOb, scopedL, scopedV, hg, keysOf]) (.keep rfl (rfl) (.keep rfl (rfl) (.keep rfl (rfl) (.keep rfl (rfl) (.nil)))))) (fun i hi => by simp [keysOf] at hi ⊢; omega)⟩

theorem y17_s (g : AV) (hg : ∀ D, scopedV D g = true) (step : Int) (k : Nat) (hk : k ≤ 1000) (hs : (k : Int) = step) (v : V3) (r0 : Loop) (h : Rec0 Tryd.prog 23 [15] as17 bd17 r0) :
    FCg (yieldSem Tryd.prog) [.yl 900, aV v] [(900, .lp r0 [(14, g), (6, .ptr 6 0 0), (3, .ptr 3 0 0), (4, .ptr 4 0 0), (5, .ptr 5 0 0)]), (6, .cells 3 1 [[iv (((k) : Nat) : Int)]] true), (3, .cells 3 1 [[iv step]] true), (4, .cells 26 3 [cV ⟨0, 0, 0⟩] true), (5, .cells 4 1 [[.bool false]] true)] (.bool false) [(900, .lp { r0 with state := .done, pending := some .ret } [(14, g), (6, .ptr 6 0 0), (3, .ptr 3 0 0), (4, .ptr 4 0 0), (5, .ptr 5 0 0)]), (6, .cells 3 1 [[iv (((k) : Nat) : Int)]] true), (3, .cells 3 1 [[iv step]] true), (4, .cells 26 3 [cV v] true), (5, .cells 4 1 [[.bool true]] true)] true := by
  have := round_yield (P := Tryd.prog) (F := [(14, g), (6, .ptr 6 0 0), (3, .ptr 3 0 0), (4, .ptr 4 0 0), (5, .ptr 5 0 0)]) (N := 23) (x := as17) (y := bd17) h.ca h.cb (li := 900) (ps := [15]) (vs := [aV v]) (J := [(6, .cells 3 1 [[iv (((k) : Nat) : Int)]] true), (3, .cells 3 1 [[iv step]] true), (4, .cells 26 3 [cV ⟨0, 0, 0⟩] true), (5, .cells 4 1 [[.bool false]] true)]) (J1 := [(6, .cells 3 1 [[iv (((k) : Nat) : Int)]] true), (3, .cells 3 1 [[iv step]] true), (4, .cells 26 3 [cV ⟨0, 0, 0⟩] true), (5, .cells 4 1 [[.bool false]] true), (7, .cells 26 3 [cV v] true)]) (J' := [(6, .cells 3 1 [[iv (((k) : Nat) : Int)]] true), (3, .cells 3 1 [[iv step]] true), (4, .cells 26 3 [cV v] true), (5, .cells 4 1 [[.bool true]] true)]) (Fb := [(6, .ptr 6 0 0), (3, .ptr 3 0 0), (4, .ptr 4 0 0), (5, .ptr 5 0 0), (7, .ptr 7 0 0)]) (Z0 := [900, 6, 3, 4, 5]) .ret (some .ret) (.inr ⟨rfl, rfl⟩)
    rfl rfl (fun i hi => mem_keys.1 hi) (by simp) (fun i h => mem_keys.2 h) (fun i hi => mem_keys.1 (by simp [keysOf] at hi ⊢; omega)) h.state h.params rfl rfl h.size (fun t v h => get_mem h) (fun lb o => as17w g hg step k v o lb) (fun lb o => bd17w_s g hg step k hk hs v o lb)
  exact this

end Go.Proofs.YteommcdafifckaaDoor

/-! Walks: M3. -/
namespace Go.Proofs.YteommcdafifckaaDoor
open Go.RowKit
set_option maxRecDepth 100000

theorem ret_own_e {P : Program} {F : Fr} {H H' : Hp} {Z : List Nat} {rs : List ResultVar} {r : AV} {vs : List AV} {e : Exit} (he : e = .normal ∨ e = .ret) (h : resVs P F H rs = some vs) (hr : RC H H' true (resOne vs) r) (hk : KeptHs H (keysOf H') H') (hz : ZL H H' Z) : RetQ P Z rs r H' true e F H :=
  ⟨he, vs, h, hr, hk.keptH, hz.at_⟩
theorem arcV_lt {c a b : V3} {r j : Nat} (hj : j ≤ r) (h : iP r (j + 1) * iP r (j + 1) + j * j = r * r) : (arcV c a b r (r + 1))[(arcV c a b r j).length]? = some (plus (plus c a (iP r (j + 1))) b j) := by
  refine arcV_pre c a b r (j + 1) ?_ (r + 1) (by omega)
  rw [arcV_t rfl h]; simp
theorem sq_le {i r : Nat} (h : i ≤ r) : i * i ≤ r * r := Nat.mul_le_mul h h

def mc77 : MC := (.seq (.reg [⟨(some 6), (.ld false 1 (.t 1)), none, []⟩, ⟨(some 7), (.bin .add (.t 6) (.c (.int .i64 1))), none, [0]⟩, ⟨(some 8), (.mv (.c (.int .i64 0))), none, []⟩] false) (.block 0 (.loop (.seq (.reg [⟨(some 9), (.bin .lss (.t 8) (.t 7)), none, []⟩] false) (.seq (.cond (.t 9) .skip (.exit 0)) (.seq (.block 1 (.seq (.reg [⟨(some 10), (.mv (.t 8)), none, []⟩, ⟨(some 5), (.mv (.t 10)), none, [0, 0]⟩] false) (.seq (.reg [⟨(some 11), (.mv (.t 0)), none, []⟩, ⟨(some 12), (.fa 0 (.t 2)), none, []⟩, ⟨(some 13), (.fa 1 (.t 12)), none, [1]⟩, ⟨(some 14), (.ld true 3 (.t 13)), none, [2]⟩, ⟨(some 15), (.ld true 3 (.t 3)), none, []⟩, ⟨(some 16), (.mv (.t 5)), none, []⟩, ⟨(some 17), (.call 76 [(.t 14), (.t 15), (.t 16)]), none, [3, 4, 5]⟩, ⟨(some 18), (.callv (.t 11) [(.t 17)]), none, [0, 6, 6]⟩, ⟨(some 19), (.un .not (.t 18)), none, [7]⟩] false) (.cond (.t 19) .ret .skip)))) (.reg [⟨(some 20), (.bin .add (.t 8) (.c (.int .i64 1))), none, []⟩, ⟨(some 8), (.mv (.t 20)), none, [0]⟩] false)))))))
theorem mcOk77 : (match Tryd.f75.body with | some c => compC Tryd.prog 21 c | none => none) = some mc77 := by kernel_rfl

theorem fc77_app (g : AV) (hg : ∀ D, scopedV D g = true) (m : Mv) (b : V3) (n : Nat) (hm : Bd 100 m.fr) (hb : Bd 100 b) (hn : n ≤ 100) (r0 : Loop) (h : Rec0 Tryd.prog 13 [7] as56 bd56 r0) : FC Tryd.prog 75 [.yl 900, .rp [iv (n : Int)], .rp (cM m), .rp (cV b)] [(900, .lp r0 [(6, g), (2, .ptr 2 0 0)]), (2, .cells 40 1 [[.sl 901 0 (([] : List V3)).length]] false), (901, .cells 26 3 ((([] : List V3)).map cV) true)] (.tup []) [(900, .lp r0 [(6, g), (2, .ptr 2 0 0)]), (2, .cells 40 1 [[.sl 903 0 (linQ m.fr b (n + 1)).length]] false), (903, .cells 26 3 ((linQ m.fr b (n + 1)).map cV) true), (901, .dead)] true := by
  refine fc_run (nt := 21) Tryd.func75 rfl rfl mcOk77 (Nat.le_of_ble_eq_true rfl) ?_
  delta mc77
  refine aw_seq ?_
  refine aw_reg ?_
  refine rs_ld_r rfl rfl rfl ?_
  refine rs_add rfl rfl rfl (by omega) ?_
  refine rs_mv rfl rfl ?_
  refine rs_nil fun _ => ?_
  refine th_n ?_
  refine aw_block ?_
  refine aw_fam (α := Nat) (fun k => n + 1 - k) (fun k => [(0, .yl 900), (1, .rp [iv (n : Int)]), (2, .rp (cM m)), (3, .rp (cV b)), (7, iv ((n : Int) + 1)), (8, iv (((k) : Nat) : Int))]) (fun k => [(900, .lp r0 [(6, g), (2, .ptr 2 0 0)]), (2, .cells 40 1 [[.sl 903 0 (linQ m.fr b (k)).length]] false), (903, .cells 26 3 ((linQ m.fr b (k)).map cV) true), (901, .dead)]) (fun k => k ≤ n + 1) 0 (by omega)
    ((Weak.trans (F1 := [(0, .yl 900), (1, .rp [iv (n : Int)]), (2, .rp (cM m)), (3, .rp (cV b)), (7, iv ((n : Int) + 1)), (8, iv (((0) : Nat) : Int))]) (H1 := [(900, .lp r0 [(6, g), (2, .ptr 2 0 0)]), (2, .cells 40 1 [[.sl 901 0 (([] : List V3)).length]] false), (901, .cells 26 3 ((([] : List V3)).map cV) true)]) (weak_to (.cons rfl (rc_same rfl (.inl rfl)) (.cons rfl (rc_same rfl (.inl rfl)) (.cons rfl (rc_same rfl (.inl rfl)) (.cons rfl (rc_same rfl (.inl rfl)) (.cons rfl (rc_same rfl (.inl rfl)) (.cons rfl (rc_same rfl (.inl rfl)) (.nil))))))) (.keep (rfl) (by simp [scopedOb, scopedL, scopedV, hg, keysOf]) (.keep (rfl) rfl (.keep (rfl) rfl (.nil)))) (fun i hi => by simp [keysOf] at hi ⊢; omega)) (Weak.trans (F1 := [(0, .yl 900), (1, .rp [iv (n : Int)]), (2, .rp (cM m)), (3, .rp (cV b)), (7, iv ((n : Int) + 1)), (8, iv (((0) : Nat) : Int))]) (weak_ren_cell (i := 901) (i' := 903) (k := 2) rfl rfl (.cons rfl (.same _) (.cons rfl (.same _) (.cons rfl (.same _) (.cons rfl (.same _) (.cons rfl (.same _) (.cons rfl (.same _) (.nil))))))) (by decide) rfl (.sl _ _)) (weak_to (.cons rfl (rc_same rfl (.inl rfl)) (.cons rfl (rc_same rfl (.inl rfl)) (.cons rfl (rc_same rfl (.inl rfl)) (.cons rfl (rc_same rfl (.inl rfl)) (.cons rfl (rc_same rfl (.inl rfl)) (.cons rfl (rc_same rfl (.inl rfl)) (.nil))))))) (.keep (rfl) (by simp [scopedOb, scopedL, scopedV, hg, keysOf]) (.keep (rfl) rfl (.keep (rfl) rfl (.keep (rfl) rfl (.nil))))) (fun i hi => by simp [keysOf] at hi ⊢; omega))))) ?_
  intro k hk
  refine aw_seq ?_
  refine aw_reg ?_
  refine rs_lss rfl rfl rfl ?_
  refine rs_nil fun _ => ?_
  refine th_n ?_
  refine aw_seq ?_
  refine aw_cond rfl (fun h9 => ?_) (fun h9 => ?_)
  · replace h9 := of_decide_eq_true h9
    refine aw_skip ?_
    refine th_n ?_
    refine aw_seq ?_
    refine aw_block ?_
    refine aw_seq ?_
    refine aw_reg ?_
    refine rs_mv rfl rfl ?_
    refine rs_mv rfl rfl ?_
    refine rs_nil fun _ => ?_
    refine th_n ?_
    refine aw_seq ?_
    refine aw_reg ?_
    refine rs_mv rfl rfl ?_
    refine rs_fa_r rfl rfl rfl ?_
    refine rs_fa_r rfl rfl rfl ?_
    refine rs_ld_ra rfl rfl (Nat.le_of_ble_eq_true rfl) rfl ?_
    refine rs_ld_ra rfl rfl (Nat.le_of_ble_eq_true rfl) rfl ?_
    refine rs_mv rfl rfl ?_
    refine rs_calln [] rfl rfl (fc78s hm.big hb.big (by omega)) (.cons (hv_same rfl) (.cons (hv_same rfl) (.cons (hv_same rfl) (.nil)))) rfl ?_
    refine rs_yield [(900, .lp r0 [(6, g), (2, .ptr 2 0 0)]), (2, .cells 40 1 [[.sl 903 0 (linQ m.fr b k).length]] false), (903, .cells 26 3 ((linQ m.fr b k).map cV) true)] rfl rfl rfl (y56 g hg (linQ m.fr b k) (by rw [linQ_len]; omega) (plus m.fr b k) r0 h) (.cons (hv_same rfl) (.cons (hv_same rfl) .nil)) (.cons rfl (.cons rfl (.cons rfl (.nil)))) (by simp [scopedHs, scopedOb, scopedL, scopedV, scopedE, hg, keysOf]) rfl rfl ?_
    refine rs_not rfl rfl ?_
    refine rs_nil fun _ => ?_
    refine th_n ?_
    refine aw_cond rfl (fun h => by cases h) (fun _ => ?_)
    refine aw_skip ?_
    refine in_n ?_
    refine th_n ?_
    refine aw_reg ?_
    refine rs_add rfl rfl rfl (by omega) ?_
    refine rs_mv rfl rfl ?_
    refine rs_nil fun _ => ?_
    refine th_n ?_
    exact ⟨k + 1, by omega, by omega, (Weak.trans (F1 := [(0, .yl 900), (1, .rp [iv (n : Int)]), (2, .rp (cM m)), (3, .rp (cV b)), (7, iv ((n : Int) + 1)), (8, iv (((k + 1) : Nat) : Int))]) (H1 := [(900, .lp r0 [(6, g), (2, .ptr 2 0 0)]), (2, .cells 40 1 [[.sl 11 0 (linQ m.fr b k ++ [plus m.fr b k]).length]] false), (11, .cells 26 3 ((linQ m.fr b k ++ [plus m.fr b k]).map cV) true), (901, .dead)]) (weak_to (.cons rfl (rc_same rfl (.inl rfl)) (.cons rfl (rc_same rfl (.inl rfl)) (.cons rfl (rc_same rfl (.inl rfl)) (.cons rfl (rc_same rfl (.inl rfl)) (.cons rfl (rc_same rfl (.inl rfl)) (.cons rfl (rc_same rfl (.inl rfl)) (.nil))))))) (.keep (rfl) (by simp [scopedOb, scopedL, scopedV, hg, keysOf]) (.keep (rfl) rfl (.keep (rfl) rfl (.keep (rfl) rfl (.nil))))) (fun i hi => by simp [keysOf] at hi ⊢; omega)) (Weak.trans (F1 := [(0, .yl 900), (1, .rp [iv (n : Int)]), (2, .rp (cM m)), (3, .rp (cV b)), (7, iv ((n : Int) + 1)), (8, iv (((k + 1) : Nat) : Int))]) (weak_ren_cell (i := 11) (i' := 903) (k := 2) rfl rfl (.cons rfl (.same _) (.cons rfl (.same _) (.cons rfl (.same _) (.cons rfl (.same _) (.cons rfl (.same _) (.cons rfl (.same _) (.nil))))))) (by decide) rfl (.sl _ _)) (weak_to (.cons rfl (rc_same rfl (.inl rfl)) (.cons rfl (rc_same rfl (.inl rfl)) (.cons rfl (rc_same rfl (.inl rfl)) (.cons rfl (rc_same rfl (.inl rfl)) (.cons rfl (rc_same rfl (.inl rfl)) (.cons rfl (rc_same rfl (.inl rfl)) (.nil))))))) (.keep (rfl) (by simp [scopedOb, scopedL, scopedV, hg, keysOf]) (.keep (by rw [linQ_succ]; rfl) rfl (.keep (by rw [linQ_succ]; rfl) rfl (.keep (rfl) rfl (.nil))))) (fun i hi => by simp [keysOf] at hi ⊢; omega))))⟩
  · replace h9 := of_decide_eq_false h9
    refine aw_exit ?_
    refine th_e ?_
    refine th_e ?_
    refine in_hit ?_
    obtain rfl : k = n + 1 := by omega
    exact ret_own_e (by first | exact .inl rfl | exact .inr rfl) rfl (rc_same rfl (.inl rfl)) (.keep (rfl) (by simp [scopedOb, scopedL, scopedV, hg, keysOf]) (.keep (rfl) rfl (.keep (rfl) rfl (.keep (rfl) rfl (.nil))))) (.cons rfl rfl rfl (.cons rfl rfl rfl (.dead rfl rfl (.nil))))

theorem fc77_at_n (g : AV) (hg : ∀ D, scopedV D g = true) (step : Int) (m : Mv) (b : V3) (n : Nat) (hm : Bd 100 m.fr) (hb : Bd 100 b) (hn : n ≤ 100) (hs : step < 0 ∨ (n : Int) < step) (r0 : Loop) (h : Rec0 Tryd.prog 23 [15] as17 bd17 r0) : FC Tryd.prog 75 [.yl 900, .rp [iv (n : Int)], .rp (cM m), .rp (cV b)] [(900, .lp r0 [(14, g), (6, .ptr 6 0 0), (3, .ptr 3 0 0), (4, .ptr 4 0 0), (5, .ptr 5 0 0)]), (6, .cells 3 1 [[iv (((0) : Nat) : Int)]] true), (3, .cells 3 1 [[iv step]] true), (4, .cells 26 3 [cV ⟨0, 0, 0⟩] true), (5, .cells 4 1 [[.bool false]] true)] (.tup []) [(900, .lp r0 [(14, g), (6, .ptr 6 0 0), (3, .ptr 3 0 0), (4, .ptr 4 0 0), (5, .ptr 5 0 0)]), (6, .cells 3 1 [[iv (((n + 1) : Nat) : Int)]] true), (3, .cells 3 1 [[iv step]] true), (4, .cells 26 3 [cV ⟨0, 0, 0⟩] true), (5, .cells 4 1 [[.bool false]] true)] true := by
  refine fc_run (nt := 21) Tryd.func75 rfl rfl mcOk77 (Nat.le_of_ble_eq_true rfl) ?_
  delta mc77
  refine aw_seq ?_
  refine aw_reg ?_
  refine rs_ld_r rfl rfl rfl ?_
  refine rs_add rfl rfl rfl (by omega) ?_
  refine rs_mv rfl rfl ?_
  refine rs_nil fun _ => ?_
  refine th_n ?_
  refine aw_block ?_
  refine aw_fam (α := Nat) (fun k => n + 1 - k) (fun k => [(0, .yl 900), (1, .rp [iv (n : Int)]), (2, .rp (cM m)), (3, .rp (cV b)), (7, iv ((n : Int) + 1)), (8, iv (((k) : Nat) : Int))]) (fun k => [(900, .lp r0 [(14, g), (6, .ptr 6 0 0), (3, .ptr 3 0 0), (4, .ptr 4 0 0), (5, .ptr 5 0 0)]), (6, .cells 3 1 [[iv (((k) : Nat) : Int)]] true), (3, .cells 3 1 [[iv step]] true), (4, .cells 26 3 [cV ⟨0, 0, 0⟩] true), (5, .cells 4 1 [[.bool false]] true)]) (fun k => k ≤ n + 1) 0 (by omega)
    (weak_to (.cons rfl (rc_same rfl (.inl rfl)) (.cons rfl (rc_same rfl (.inl rfl)) (.cons rfl (rc_same rfl (.inl rfl)) (.cons rfl (rc_same rfl (.inl rfl)) (.cons rfl (rc_same rfl (.inl rfl)) (.cons rfl (rc_same rfl (.inl rfl)) (.nil))))))) (.keep (rfl) (by simp [scopedOb, scopedL, scopedV, hg, keysOf]) (.keep (rfl) rfl (.keep (rfl) rfl (.keep (rfl) rfl (.keep (rfl) rfl (.nil)))))) (fun i hi => by simp [keysOf] at hi ⊢; omega)) ?_
  intro k hk
  refine aw_seq ?_
  refine aw_reg ?_
  refine rs_lss rfl rfl rfl ?_
  refine rs_nil fun _ => ?_
  refine th_n ?_
  refine aw_seq ?_
  refine aw_cond rfl (fun h9 => ?_) (fun h9 => ?_)
  · replace h9 := of_decide_eq_true h9
    refine aw_skip ?_
    refine th_n ?_
    refine aw_seq ?_
    refine aw_block ?_
    refine aw_seq ?_
    refine aw_reg ?_
    refine rs_mv rfl rfl ?_
    refine rs_mv rfl rfl ?_
    refine rs_nil fun _ => ?_
    refine th_n ?_
    refine aw_seq ?_
    refine aw_reg ?_
    refine rs_mv rfl rfl ?_
    refine rs_fa_r rfl rfl rfl ?_
    refine rs_fa_r rfl rfl rfl ?_
    refine rs_ld_ra rfl rfl (Nat.le_of_ble_eq_true rfl) rfl ?_
    refine rs_ld_ra rfl rfl (Nat.le_of_ble_eq_true rfl) rfl ?_
    refine rs_mv rfl rfl ?_
    refine rs_calln [] rfl rfl (fc78s hm.big hb.big (by omega)) (.cons (hv_same rfl) (.cons (hv_same rfl) (.cons (hv_same rfl) (.nil)))) rfl ?_
    refine rs_yield [(900, .lp r0 [(14, g), (6, .ptr 6 0 0), (3, .ptr 3 0 0), (4, .ptr 4 0 0), (5, .ptr 5 0 0)]), (6, .cells 3 1 [[iv (((k) : Nat) : Int)]] true), (3, .cells 3 1 [[iv step]] true), (4, .cells 26 3 [cV ⟨0, 0, 0⟩] true), (5, .cells 4 1 [[.bool false]] true)] rfl rfl rfl (y17_n g hg step (k) (by omega) (by omega) _ r0 h) (.cons (hv_same rfl) (.cons (hv_same rfl) .nil)) (.cons rfl (.cons rfl (.cons rfl (.cons rfl (.cons rfl (.nil)))))) (by simp [scopedHs, scopedOb, scopedL, scopedV, scopedE, hg, keysOf]) rfl rfl ?_
    refine rs_not rfl rfl ?_
    refine rs_nil fun _ => ?_
    refine th_n ?_
    refine aw_cond rfl (fun h => by cases h) (fun _ => ?_)
    refine aw_skip ?_
    refine in_n ?_
    refine th_n ?_
    refine aw_reg ?_
    refine rs_add rfl rfl rfl (by omega) ?_
    refine rs_mv rfl rfl ?_
    refine rs_nil fun _ => ?_
    refine th_n ?_
    exact ⟨k + 1, by omega, by omega, weak_to (.cons rfl (rc_same rfl (.inl rfl)) (.cons rfl (rc_same rfl (.inl rfl)) (.cons rfl (rc_same rfl (.inl rfl)) (.cons rfl (rc_same rfl (.inl rfl)) (.cons rfl (rc_same rfl (.inl rfl)) (.cons rfl (rc_same rfl (.inl rfl)) (.nil))))))) (.keep (rfl) (by simp [scopedOb, scopedL, scopedV, hg, keysOf]) (.keep (rfl) rfl (.keep (rfl) rfl (.keep (rfl) rfl (.keep (rfl) rfl (.nil)))))) (fun i hi => by simp [keysOf] at hi ⊢; omega)⟩
  · replace h9 := of_decide_eq_false h9
    refine aw_exit ?_
    refine th_e ?_
    refine th_e ?_
    refine in_hit ?_
    obtain rfl : k = n + 1 := by omega
    exact ret_own_e (by first | exact .inl rfl | exact .inr rfl) rfl (rc_same rfl (.inl rfl)) (.keep (rfl) (by simp [scopedOb, scopedL, scopedV, hg, keysOf]) (.keep (rfl) rfl (.keep (rfl) rfl (.keep (rfl) rfl (.keep (rfl) rfl (.nil)))))) (.cons rfl rfl rfl (.cons rfl rfl rfl (.cons rfl rfl rfl (.cons rfl rfl rfl (.cons rfl rfl rfl (.nil))))))

theorem fc77_at_s (g : AV) (hg : ∀ D, scopedV D g = true) (step : Int) (m : Mv) (b : V3) (n : Nat) (hm : Bd 100 m.fr) (hb : Bd 100 b) (hn : n ≤ 100) (s : Nat) (hs : (s : Int) = step) (hsn : s ≤ n) (r0 : Loop) (h : Rec0 Tryd.prog 23 [15] as17 bd17 r0) : FC Tryd.prog 75 [.yl 900, .rp [iv (n : Int)], .rp (cM m), .rp (cV b)] [(900, .lp r0 [(14, g), (6, .ptr 6 0 0), (3, .ptr 3 0 0), (4, .ptr 4 0 0), (5, .ptr 5 0 0)]), (6, .cells 3 1 [[iv (((0) : Nat) : Int)]] true), (3, .cells 3 1 [[iv step]] true), (4, .cells 26 3 [cV ⟨0, 0, 0⟩] true), (5, .cells 4 1 [[.bool false]] true)] (.tup []) [(900, .lp { r0 with state := .done, pending := some .ret } [(14, g), (6, .ptr 6 0 0), (3, .ptr 3 0 0), (4, .ptr 4 0 0), (5, .ptr 5 0 0)]), (6, .cells 3 1 [[iv (((s) : Nat) : Int)]] true), (3, .cells 3 1 [[iv step]] true), (4, .cells 26 3 [cV (plus m.fr b (s : Int))] true), (5, .cells 4 1 [[.bool true]] true)] true := by
  refine fc_run (nt := 21) Tryd.func75 rfl rfl mcOk77 (Nat.le_of_ble_eq_true rfl) ?_
  delta mc77
  refine aw_seq ?_
  refine aw_reg ?_
  refine rs_ld_r rfl rfl rfl ?_
  refine rs_add rfl rfl rfl (by omega) ?_
  refine rs_mv rfl rfl ?_
  refine rs_nil fun _ => ?_
  refine th_n ?_
  refine aw_block ?_
  refine aw_fam (α := Nat) (fun k => n + 1 - k) (fun k => [(0, .yl 900), (1, .rp [iv (n : Int)]), (2, .rp (cM m)), (3, .rp (cV b)), (7, iv ((n : Int) + 1)), (8, iv (((k) : Nat) : Int))]) (fun k => [(900, .lp r0 [(14, g), (6, .ptr 6 0 0), (3, .ptr 3 0 0), (4, .ptr 4 0 0), (5, .ptr 5 0 0)]), (6, .cells 3 1 [[iv (((k) : Nat) : Int)]] true), (3, .cells 3 1 [[iv step]] true), (4, .cells 26 3 [cV ⟨0, 0, 0⟩] true), (5, .cells 4 1 [[.bool false]] true)]) (fun k => k ≤ s) 0 (by omega)
    (weak_to (.cons rfl (rc_same rfl (.inl rfl)) (.cons rfl (rc_same rfl (.inl rfl)) (.cons rfl (rc_same rfl (.inl rfl)) (.cons rfl (rc_same rfl (.inl rfl)) (.cons rfl (rc_same rfl (.inl rfl)) (.cons rfl (rc_same rfl (.inl rfl)) (.nil))))))) (.keep (rfl) (by simp [scopedOb, scopedL, scopedV, hg, keysOf]) (.keep (rfl) rfl (.keep (rfl) rfl (.keep (rfl) rfl (.keep (rfl) rfl (.nil)))))) (fun i hi => by simp [keysOf] at hi ⊢; omega)) ?_
  intro k hk
  refine aw_seq ?_
  refine aw_reg ?_
  refine rs_lss rfl rfl rfl ?_
  refine rs_nil fun _ => ?_
  refine th_n ?_
  refine aw_seq ?_
  refine aw_cond rfl (fun h9 => ?_) (fun h9 => ?_)
  · replace h9 := of_decide_eq_true h9
    refine aw_skip ?_
    refine th_n ?_
    refine aw_seq ?_
    refine aw_block ?_
    refine aw_seq ?_
    refine aw_reg ?_
    refine rs_mv rfl rfl ?_
    refine rs_mv rfl rfl ?_
    refine rs_nil fun _ => ?_
    refine th_n ?_
    refine aw_seq ?_
    refine aw_reg ?_
    refine rs_mv rfl rfl ?_
    refine rs_fa_r rfl rfl rfl ?_
    refine rs_fa_r rfl rfl rfl ?_
    refine rs_ld_ra rfl rfl (Nat.le_of_ble_eq_true rfl) rfl ?_
    refine rs_ld_ra rfl rfl (Nat.le_of_ble_eq_true rfl) rfl ?_
    refine rs_mv rfl rfl ?_
    refine rs_calln [] rfl rfl (fc78s hm.big hb.big (by omega)) (.cons (hv_same rfl) (.cons (hv_same rfl) (.cons (hv_same rfl) (.nil)))) rfl ?_
    rcases Nat.lt_or_ge k s with hks | hks
    · skip
      refine rs_yield [(900, .lp r0 [(14, g), (6, .ptr 6 0 0), (3, .ptr 3 0 0), (4, .ptr 4 0 0), (5, .ptr 5 0 0)]), (6, .cells 3 1 [[iv (((k) : Nat) : Int)]] true), (3, .cells 3 1 [[iv step]] true), (4, .cells 26 3 [cV ⟨0, 0, 0⟩] true), (5, .cells 4 1 [[.bool false]] true)] rfl rfl rfl (y17_n g hg step (k) (by omega) (by omega) _ r0 h) (.cons (hv_same rfl) (.cons (hv_same rfl) .nil)) (.cons rfl (.cons rfl (.cons rfl (.cons rfl (.cons rfl (.nil)))))) (by simp [scopedHs, scopedOb, scopedL, scopedV, scopedE, hg, keysOf]) rfl rfl ?_
      refine rs_not rfl rfl ?_
      refine rs_nil fun _ => ?_
      refine th_n ?_
      refine aw_cond rfl (fun h => by cases h) (fun _ => ?_)
      refine aw_skip ?_
      refine in_n ?_
      refine th_n ?_
      refine aw_reg ?_
      refine rs_add rfl rfl rfl (by omega) ?_
      refine rs_mv rfl rfl ?_
      refine rs_nil fun _ => ?_
      refine th_n ?_
      exact ⟨k + 1, by omega, by omega, weak_to (.cons rfl (rc_same rfl (.inl rfl)) (.cons rfl (rc_same rfl (.inl rfl)) (.cons rfl (rc_same rfl (.inl rfl)) (.cons rfl (rc_same rfl (.inl rfl)) (.cons rfl (rc_same rfl (.inl rfl)) (.cons rfl (rc_same rfl (.inl rfl)) (.nil))))))) (.keep (rfl) (by simp [scopedOb, scopedL, scopedV, hg, keysOf]) (.keep (rfl) rfl (.keep (rfl) rfl (.keep (rfl) rfl (.keep (rfl) rfl (.nil)))))) (fun i hi => by simp [keysOf] at hi ⊢; omega)⟩
    · have hks2 : k = s := by omega
      subst hks2
      refine rs_yield [(900, .lp r0 [(14, g), (6, .ptr 6 0 0), (3, .ptr 3 0 0), (4, .ptr 4 0 0), (5, .ptr 5 0 0)]), (6, .cells 3 1 [[iv (((k) : Nat) : Int)]] true), (3, .cells 3 1 [[iv step]] true), (4, .cells 26 3 [cV ⟨0, 0, 0⟩] true), (5, .cells 4 1 [[.bool false]] true)] rfl rfl rfl (y17_s g hg step k (by omega) hs (plus m.fr b (k : Int)) r0 h) (.cons (hv_same rfl) (.cons (hv_same rfl) .nil)) (.cons rfl (.cons rfl (.cons rfl (.cons rfl (.cons rfl (.nil)))))) (by simp [scopedHs, scopedOb, scopedL, scopedV, scopedE, hg, keysOf]) rfl rfl ?_
      refine rs_not rfl rfl ?_
      refine rs_nil fun _ => ?_
      refine th_n ?_
      refine aw_cond rfl (fun _ => ?_) (fun h => by cases h)
      refine aw_ret ?_
      refine in_r ?_
      refine th_r ?_
      refine th_r ?_
      refine in_r ?_
      exact ret_own_e (by first | exact .inl rfl | exact .inr rfl) rfl (rc_same rfl (.inl rfl)) (.keep (rfl) (by simp [scopedOb, scopedL, scopedV, hg, keysOf]) (.keep (rfl) rfl (.keep (rfl) rfl (.keep (rfl) rfl (.keep (rfl) rfl (.nil)))))) (.cons rfl rfl rfl (.cons rfl rfl rfl (.cons rfl rfl rfl (.cons rfl rfl rfl (.cons rfl rfl rfl (.nil))))))
  · replace h9 := of_decide_eq_false h9
    refine aw_exit ?_
    refine th_e ?_
    refine th_e ?_
    refine in_hit ?_
    exfalso; omega

def mc85 : MC := (.seq (.reg [⟨(some 8), (.ld false 1 (.t 1)), none, []⟩, ⟨(some 6), (.mv (.t 8)), none, [0, 0]⟩] false) (.seq (.reg [⟨(some 9), (.ld false 1 (.t 1)), none, []⟩, ⟨(some 10), (.bin .add (.t 9) (.c (.int .i64 1))), none, [0]⟩, ⟨(some 11), (.mv (.c (.int .i64 0))), none, []⟩] false) (.block 0 (.loop (.seq (.reg [⟨(some 12), (.bin .lss (.t 11) (.t 10)), none, []⟩] false) (.seq (.cond (.t 12) .skip (.exit 0)) (.seq (.block 1 (.seq (.reg [⟨(some 13), (.mv (.t 11)), none, []⟩, ⟨(some 7), (.mv (.t 13)), none, [0, 0]⟩] false) (.seq (.block 2 (.loop (.seq (.seq (.reg [⟨(some 14), (.mv (.t 6)), none, []⟩, ⟨(some 15), (.mv (.t 6)), none, []⟩, ⟨(some 16), (.bin .mul (.t 14) (.t 15)), none, [0, 1]⟩, ⟨(some 17), (.mv (.t 7)), none, []⟩, ⟨(some 18), (.mv (.t 7)), none, []⟩, ⟨(some 19), (.bin .mul (.t 17) (.t 18)), none, [3, 4]⟩, ⟨(some 20), (.bin .add (.t 16) (.t 19)), none, [2, 5]⟩, ⟨(some 21), (.ld false 1 (.t 1)), none, []⟩, ⟨(some 22), (.ld false 1 (.t 1)), none, []⟩, ⟨(some 23), (.bin .mul (.t 21) (.t 22)), none, [7, 8]⟩, ⟨(some 24), (.bin .gtr (.t 20) (.t 23)), none, [6, 9]⟩] false) (.cond (.t 24) .skip (.exit 2))) (.block 3 (.reg [⟨(some 25), (.mv (.t 6)), none, []⟩, ⟨(some 26), (.bin .sub (.t 25) (.c (.int .i64 1))), none, [0]⟩, ⟨(some 6), (.mv (.t 26)), none, [1, 0, 1]⟩] false))))) (.seq (.reg [⟨(some 27), (.mv (.t 6)), none, []⟩, ⟨(some 28), (.mv (.t 6)), none, []⟩, ⟨(some 29), (.bin .mul (.t 27) (.t 28)), none, [0, 1]⟩, ⟨(some 30), (.mv (.t 7)), none, []⟩, ⟨(some 31), (.mv (.t 7)), none, []⟩, ⟨(some 32), (.bin .mul (.t 30) (.t 31)), none, [3, 4]⟩, ⟨(some 33), (.bin .add (.t 29) (.t 32)), none, [2, 5]⟩, ⟨(some 34), (.ld false 1 (.t 1)), none, []⟩, ⟨(some 35), (.ld false 1 (.t 1)), none, []⟩, ⟨(some 36), (.bin .mul (.t 34) (.t 35)), none, [7, 8]⟩, ⟨(some 37), (.bin .eql (.t 33) (.t 36)), none, [6, 9]⟩, ⟨(some 38), (.mv (.t 37)), none, [10]⟩, ⟨(some 39), (.mv (.t 0)), (some (38, true)), [11]⟩, ⟨(some 40), (.ld true 3 (.t 2)), (some (38, true)), [11]⟩, ⟨(some 41), (.ld true 3 (.t 3)), (some (38, true)), [11]⟩, ⟨(some 42), (.mv (.t 6)), (some (38, true)), [11]⟩, ⟨(some 43), (.call 76 [(.t 40), (.t 41), (.t 42)]), (some (38, true)), [13, 14, 15, 11, 11]⟩, ⟨(some 44), (.ld true 3 (.t 4)), (some (38, true)), [11]⟩, ⟨(some 45), (.mv (.t 7)), (some (38, true)), [11]⟩, ⟨(some 46), (.call 76 [(.t 43), (.t 44), (.t 45)]), (some (38, true)), [16, 17, 18, 16, 11]⟩, ⟨(some 47), (.callv (.t 39) [(.t 46)]), (some (38, true)), [12, 19, 19, 11]⟩, ⟨(some 48), (.un .not (.t 47)), (some (38, true)), [20, 11]⟩, ⟨(some 49), (.pick (.t 38) (.t 48) (.c (.bool false))), none, [11, 21]⟩] true) (.cond (.t 49) .ret .skip))))) (.reg [⟨(some 50), (.bin .add (.t 11) (.c (.int .i64 1))), none, []⟩, ⟨(some 11), (.mv (.t 50)), none, [0]⟩] false))))))))
theorem mcOk85 : (match Tryd.f85.body with | some c => compC Tryd.prog 51 c | none => none) = some mc85 := by kernel_rfl

theorem fc85_app (g : AV) (hg : ∀ D, scopedV D g = true) (c a b : V3) (r : Nat) (hc : Bd 100 c) (ha : Bd 100 a) (hb : Bd 100 b) (hr : r ≤ 100) (r0 : Loop) (h : Rec0 Tryd.prog 13 [7] as56 bd56 r0) : FC Tryd.prog 85 [.yl 900, .rp [iv (r : Int)], .rp (cV c), .rp (cV a), .rp (cV b)] [(900, .lp r0 [(6, g), (2, .ptr 2 0 0)]), (2, .cells 40 1 [[.sl 901 0 (([] : List V3)).length]] false), (901, .cells 26 3 ((([] : List V3)).map cV) true)] (.tup []) [(900, .lp r0 [(6, g), (2, .ptr 2 0 0)]), (2, .cells 40 1 [[.sl 903 0 (arcV c a b r (r + 1)).length]] false), (903, .cells 26 3 ((arcV c a b r (r + 1)).map cV) true), (901, .dead)] true := by
  refine fc_run (nt := 51) Tryd.func85 rfl rfl mcOk85 (Nat.le_of_ble_eq_true rfl) ?_
  delta mc85
  refine aw_seq ?_
  refine aw_reg ?_
  refine rs_ld_r rfl rfl rfl ?_
  refine rs_mv rfl rfl ?_
  refine rs_nil fun _ => ?_
  refine th_n ?_
  refine aw_seq ?_
  refine aw_reg ?_
  refine rs_ld_r rfl rfl rfl ?_
  refine rs_add rfl rfl rfl (by omega) ?_
  refine rs_mv rfl rfl ?_
  refine rs_nil fun _ => ?_
  refine th_n ?_
  refine aw_block ?_
  refine aw_fam (α := Nat) (fun j => r + 1 - j) (fun j => [(0, .yl 900), (1, .rp [iv (r : Int)]), (2, .rp (cV c)), (3, .rp (cV a)), (4, .rp (cV b)), (10, iv ((r : Int) + 1)), (6, iv ((iP r (j) : Nat) : Int)), (11, iv (((j) : Nat) : Int))]) (fun j => [(900, .lp r0 [(6, g), (2, .ptr 2 0 0)]), (2, .cells 40 1 [[.sl 903 0 (arcV c a b r (j)).length]] false), (903, .cells 26 3 ((arcV c a b r (j)).map cV) true), (901, .dead)]) (fun j => j ≤ r + 1) 0 (by omega)
    ((Weak.trans (F1 := [(0, .yl 900), (1, .rp [iv (r : Int)]), (2, .rp (cV c)), (3, .rp (cV a)), (4, .rp (cV b)), (10, iv ((r : Int) + 1)), (6, iv ((iP r (0) : Nat) : Int)), (11, iv (((0) : Nat) : Int))]) (H1 := [(900, .lp r0 [(6, g), (2, .ptr 2 0 0)]), (2, .cells 40 1 [[.sl 901 0 (([] : List V3)).length]] false), (901, .cells 26 3 ((([] : List V3)).map cV) true)]) (weak_to (.cons rfl (rc_same rfl (.inl rfl)) (.cons rfl (rc_same rfl (.inl rfl)) (.cons rfl (rc_same rfl (.inl rfl)) (.cons rfl (rc_same rfl (.inl rfl)) (.cons rfl (rc_same rfl (.inl rfl)) (.cons rfl (rc_same rfl (.inl rfl)) (.cons rfl (rc_same rfl (.inl rfl)) (.cons rfl (rc_same rfl (.inl rfl)) (.nil))))))))) (.keep (rfl) (by simp [scopedOb, scopedL, scopedV, hg, keysOf]) (.keep (rfl) rfl (.keep (rfl) rfl (.nil)))) (fun i hi => by simp [keysOf] at hi ⊢; omega)) (Weak.trans (F1 := [(0, .yl 900), (1, .rp [iv (r : Int)]), (2, .rp (cV c)), (3, .rp (cV a)), (4, .rp (cV b)), (10, iv ((r : Int) + 1)), (6, iv ((iP r (0) : Nat) : Int)), (11, iv (((0) : Nat) : Int))]) (weak_ren_cell (i := 901) (i' := 903) (k := 2) rfl rfl (.cons rfl (.same _) (.cons rfl (.same _) (.cons rfl (.same _) (.cons rfl (.same _) (.cons rfl (.same _) (.cons rfl (.same _) (.cons rfl (.same _) (.cons rfl (.same _) (.nil))))))))) (by decide) rfl (.sl _ _)) (weak_to (.cons rfl (rc_same rfl (.inl rfl)) (.cons rfl (rc_same rfl (.inl rfl)) (.cons rfl (rc_same rfl (.inl rfl)) (.cons rfl (rc_same rfl (.inl rfl)) (.cons rfl (rc_same rfl (.inl rfl)) (.cons rfl (rc_same rfl (.inl rfl)) (.cons rfl (rc_same rfl (.inl rfl)) (.cons rfl (rc_same rfl (.inl rfl)) (.nil))))))))) (.keep (rfl) (by simp [scopedOb, scopedL, scopedV, hg, keysOf]) (.keep (rfl) rfl (.keep (rfl) rfl (.keep (rfl) rfl (.nil))))) (fun i hi => by simp [keysOf] at hi ⊢; omega))))) ?_
  intro j hj
  have q3 := sq_le hr
  refine aw_seq ?_
  refine aw_reg ?_
  refine rs_lss rfl rfl rfl ?_
  refine rs_nil fun _ => ?_
  refine th_n ?_
  refine aw_seq ?_
  refine aw_cond rfl (fun h12 => ?_) (fun h12 => ?_)
  · replace h12 := of_decide_eq_true h12
    refine aw_skip ?_
    refine th_n ?_
    refine aw_seq ?_
    refine aw_block ?_
    refine aw_seq ?_
    refine aw_reg ?_
    refine rs_mv rfl rfl ?_
    refine rs_mv rfl rfl ?_
    refine rs_nil fun _ => ?_
    refine th_n ?_
    refine aw_seq ?_
    refine aw_block ?_
    refine aw_fam (α := Nat) (fun i => i) (fun i => [(0, .yl 900), (1, .rp [iv (r : Int)]), (2, .rp (cV c)), (3, .rp (cV a)), (4, .rp (cV b)), (10, iv ((r : Int) + 1)), (6, iv (((i) : Nat) : Int)), (7, iv (j : Int)), (11, iv (((j) : Nat) : Int))]) (fun i => [(900, .lp r0 [(6, g), (2, .ptr 2 0 0)]), (2, .cells 40 1 [[.sl 903 0 (arcV c a b r (j)).length]] false), (903, .cells 26 3 ((arcV c a b r (j)).map cV) true), (901, .dead)]) (fun i => dn r j i = iP r (j + 1) ∧ i ≤ r) (iP r j) (⟨rfl, iP_le r j⟩)
      (weak_to (.cons rfl (rc_same rfl (.inl rfl)) (.cons rfl (rc_same rfl (.inl rfl)) (.cons rfl (rc_same rfl (.inl rfl)) (.cons rfl (rc_same rfl (.inl rfl)) (.cons rfl (rc_same rfl (.inl rfl)) (.cons rfl (rc_same rfl (.inl rfl)) (.cons rfl (rc_same rfl (.inl rfl)) (.cons rfl (rc_same rfl (.inl rfl)) (.cons rfl (rc_same rfl (.inl rfl)) (.nil)))))))))) (.keep (rfl) (by simp [scopedOb, scopedL, scopedV, hg, keysOf]) (.keep (rfl) rfl (.keep (rfl) rfl (.keep (rfl) rfl (.nil))))) (fun i hi => by simp [keysOf] at hi ⊢; omega)) ?_
    rintro i ⟨hi, hir⟩
    have q1 := sq_le hir
    have q2 := sq_le (i := j) (r := r) (by omega)
    refine aw_seq ?_
    refine aw_seq ?_
    refine aw_reg ?_
    refine rs_mv rfl rfl ?_
    refine rs_mv rfl rfl ?_
    refine rs_mulw rfl rfl rfl (sqW (by omega)) ?_
    refine rs_mv rfl rfl ?_
    refine rs_mv rfl rfl ?_
    refine rs_mulw rfl rfl rfl (sqW (by omega)) ?_
    refine rs_add rfl rfl rfl (by omega) ?_
    refine rs_ld_r rfl rfl rfl ?_
    refine rs_ld_r rfl rfl rfl ?_
    refine rs_mulw rfl rfl rfl (sqW (by omega)) ?_
    refine rs_gtr rfl rfl rfl ?_
    refine rs_nil fun _ => ?_
    refine th_n ?_
    refine aw_cond rfl (fun h24 => ?_) (fun h24 => ?_)
    · replace h24 := of_decide_eq_true h24
      refine aw_skip ?_
      refine th_n ?_
      refine aw_block ?_
      refine aw_reg ?_
      refine rs_mv rfl rfl ?_
      refine rs_sub rfl rfl rfl (by omega) ?_
      refine rs_mv rfl rfl ?_
      refine rs_nil fun _ => ?_
      refine in_n ?_
      refine th_n ?_
      rcases Nat.eq_zero_or_pos i with h0 | h0
      · exfalso; subst h0; omega
      obtain ⟨i, rfl⟩ : ∃ i0, i = i0 + 1 := ⟨i - 1, by omega⟩
      have hdn := dn_next (r := r) (j := j) (i := i) (by rw [← Int.natCast_add] at h24; exact Int.ofNat_lt.1 h24)
      exact ⟨i, ⟨by rw [← hdn]; exact hi, by omega⟩, by omega, weak_to (.cons rfl (rc_same rfl (.inl rfl)) (.cons rfl (rc_same rfl (.inl rfl)) (.cons rfl (rc_same rfl (.inl rfl)) (.cons rfl (rc_same rfl (.inl rfl)) (.cons rfl (rc_same rfl (.inl rfl)) (.cons rfl (rc_same rfl (.inl rfl)) (.cons rfl (rc_int (by omega)) (.cons rfl (rc_same rfl (.inl rfl)) (.cons rfl (rc_same rfl (.inl rfl)) (.nil)))))))))) (.keep (rfl) (by simp [scopedOb, scopedL, scopedV, hg, keysOf]) (.keep (rfl) rfl (.keep (rfl) rfl (.keep (rfl) rfl (.nil))))) (fun i hi => by simp [keysOf] at hi ⊢; omega)⟩
    · replace h24 := of_decide_eq_false h24
      refine aw_exit ?_
      refine th_e ?_
      refine th_e ?_
      refine in_hit ?_
      refine th_n ?_
      refine aw_seq ?_
      refine aw_draw hmix ?_
      rw [dn_stop (by omega)] at hi
      subst hi
      refine rs_mv rfl rfl ?_
      refine rs_mv rfl rfl ?_
      refine rs_mulw rfl rfl rfl (sqW (by omega)) ?_
      refine rs_mv rfl rfl ?_
      refine rs_mv rfl rfl ?_
      refine rs_mulw rfl rfl rfl (sqW (by omega)) ?_
      refine rs_add rfl rfl rfl (by omega) ?_
      refine rs_ld_r rfl rfl rfl ?_
      refine rs_ld_r rfl rfl rfl ?_
      refine rs_mulw rfl rfl rfl (sqW (by omega)) ?_
      refine rs_cmp rfl rfl rfl rfl (fun h37 => ?_) (fun h37 => ?_)
      · skip
        have hcond : iP r (j + 1) * iP r (j + 1) + j * j = r * r := by rw [← Int.natCast_add] at h37; exact Int.ofNat_inj.1 h37
        refine rs_mv rfl rfl ?_
        refine rs_mv rfl rfl ?_
        refine rs_ld_ra rfl rfl (Nat.le_of_ble_eq_true rfl) rfl ?_
        refine rs_ld_ra rfl rfl (Nat.le_of_ble_eq_true rfl) rfl ?_
        refine rs_mv rfl rfl ?_
        refine rs_calln [] rfl rfl (fc78s hc.big ha.big (by omega)) (.cons (hv_same rfl) (.cons (hv_same rfl) (.cons (hv_same rfl) (.nil)))) rfl ?_
        refine rs_ld_ra rfl rfl (Nat.le_of_ble_eq_true rfl) rfl ?_
        refine rs_mv rfl rfl ?_
        refine rs_calln [] rfl rfl (fc78s (Bd.plus hc ha (q := 100) (by omega)).big hb.big (by omega)) (.cons (hv_same rfl) (.cons (hv_same rfl) (.cons (hv_same rfl) (.nil)))) rfl ?_
        refine rs_yield [(900, .lp r0 [(6, g), (2, .ptr 2 0 0)]), (2, .cells 40 1 [[.sl 903 0 (arcV c a b r (j)).length]] false), (903, .cells 26 3 ((arcV c a b r (j)).map cV) true)] rfl rfl rfl (y56 g hg (arcV c a b r (j)) (by have := arcV_len c a b r j; omega) (plus (plus c a ((iP r (j + 1) : Nat) : Int)) b (j : Int)) r0 h) (.cons (hv_same rfl) (.cons (hv_same rfl) .nil)) (.cons rfl (.cons rfl (.cons rfl (.nil)))) (by simp [scopedHs, scopedOb, scopedL, scopedV, scopedE, hg, keysOf]) rfl rfl ?_
        refine rs_not rfl rfl ?_
        refine rs_pick rfl rfl rfl ?_
        refine rs_nil ⟨by kernel_rfl, fun _ => ?_⟩
        refine th_n ?_
        refine aw_cond rfl (fun h => by cases h) (fun _ => ?_)
        refine aw_skip ?_
        refine in_n ?_
        refine th_n ?_
        refine aw_reg ?_
        refine rs_add rfl rfl rfl (by omega) ?_
        refine rs_mv rfl rfl ?_
        refine rs_nil fun _ => ?_
        refine th_n ?_
        (have e := arcV_t (c := c) (a := a) (b := b) rfl hcond
         exact ⟨j + 1, by omega, by omega, (Weak.trans (F1 := [(0, .yl 900), (1, .rp [iv (r : Int)]), (2, .rp (cV c)), (3, .rp (cV a)), (4, .rp (cV b)), (10, iv ((r : Int) + 1)), (6, iv ((iP r (j + 1) : Nat) : Int)), (11, iv (((j + 1) : Nat) : Int))]) (H1 := [(900, .lp r0 [(6, g), (2, .ptr 2 0 0)]), (2, .cells 40 1 [[.sl 11 0 (arcV c a b r (j) ++ [(plus (plus c a ((iP r (j + 1) : Nat) : Int)) b (j : Int))]).length]] false), (11, .cells 26 3 ((arcV c a b r (j) ++ [(plus (plus c a ((iP r (j + 1) : Nat) : Int)) b (j : Int))]).map cV) true), (901, .dead)]) (weak_to (.cons rfl (rc_same rfl (.inl rfl)) (.cons rfl (rc_same rfl (.inl rfl)) (.cons rfl (rc_same rfl (.inl rfl)) (.cons rfl (rc_same rfl (.inl rfl)) (.cons rfl (rc_same rfl (.inl rfl)) (.cons rfl (rc_same rfl (.inl rfl)) (.cons rfl (rc_same rfl (.inl rfl)) (.cons rfl (rc_same rfl (.inl rfl)) (.nil))))))))) (.keep (rfl) (by simp [scopedOb, scopedL, scopedV, hg, keysOf]) (.keep (rfl) rfl (.keep (rfl) rfl (.keep (rfl) rfl (.nil))))) (fun i hi => by simp [keysOf] at hi ⊢; omega)) (Weak.trans (F1 := [(0, .yl 900), (1, .rp [iv (r : Int)]), (2, .rp (cV c)), (3, .rp (cV a)), (4, .rp (cV b)), (10, iv ((r : Int) + 1)), (6, iv ((iP r (j + 1) : Nat) : Int)), (11, iv (((j + 1) : Nat) : Int))]) (weak_ren_cell (i := 11) (i' := 903) (k := 2) rfl rfl (.cons rfl (.same _) (.cons rfl (.same _) (.cons rfl (.same _) (.cons rfl (.same _) (.cons rfl (.same _) (.cons rfl (.same _) (.cons rfl (.same _) (.cons rfl (.same _) (.nil))))))))) (by decide) rfl (.sl _ _)) (weak_to (.cons rfl (rc_same rfl (.inl rfl)) (.cons rfl (rc_same rfl (.inl rfl)) (.cons rfl (rc_same rfl (.inl rfl)) (.cons rfl (rc_same rfl (.inl rfl)) (.cons rfl (rc_same rfl (.inl rfl)) (.cons rfl (rc_same rfl (.inl rfl)) (.cons rfl (rc_same rfl (.inl rfl)) (.cons rfl (rc_same rfl (.inl rfl)) (.nil))))))))) (.keep (rfl) (by simp [scopedOb, scopedL, scopedV, hg, keysOf]) (.keep (by rw [e]; rfl) rfl (.keep (by rw [e]; rfl) rfl (.keep (rfl) rfl (.nil))))) (fun i hi => by simp [keysOf] at hi ⊢; omega))))⟩)
      · skip
        have hcond : ¬ iP r (j + 1) * iP r (j + 1) + j * j = r * r := fun e => h37 (by rw [← Int.natCast_add, e])
        refine rs_mv rfl rfl ?_
        refine rs_skip rfl ?_
        refine rs_skip rfl ?_
        refine rs_skip rfl ?_
        refine rs_skip rfl ?_
        refine rs_skip rfl ?_
        refine rs_skip rfl ?_
        refine rs_skip rfl ?_
        refine rs_skip rfl ?_
        refine rs_skip rfl ?_
        refine rs_skip rfl ?_
        refine rs_pick rfl rfl rfl ?_
        refine rs_nil ⟨by kernel_rfl, fun _ => ?_⟩
        refine th_n ?_
        refine aw_cond rfl (fun h => by cases h) (fun _ => ?_)
        refine aw_skip ?_
        refine in_n ?_
        refine th_n ?_
        refine aw_reg ?_
        refine rs_add rfl rfl rfl (by omega) ?_
        refine rs_mv rfl rfl ?_
        refine rs_nil fun _ => ?_
        refine th_n ?_
        (have e := arcV_f (c := c) (a := a) (b := b) rfl hcond
         exact ⟨j + 1, by omega, by omega, weak_to (.cons rfl (rc_same rfl (.inl rfl)) (.cons rfl (rc_same rfl (.inl rfl)) (.cons rfl (rc_same rfl (.inl rfl)) (.cons rfl (rc_same rfl (.inl rfl)) (.cons rfl (rc_same rfl (.inl rfl)) (.cons rfl (rc_same rfl (.inl rfl)) (.cons rfl (rc_same rfl (.inl rfl)) (.cons rfl (rc_same rfl (.inl rfl)) (.nil))))))))) (.keep (rfl) (by simp [scopedOb, scopedL, scopedV, hg, keysOf]) (.keep (by rw [e]; rfl) rfl (.keep (by rw [e]; rfl) rfl (.keep (rfl) rfl (.nil))))) (fun i hi => by simp [keysOf] at hi ⊢; omega)⟩)
  · replace h12 := of_decide_eq_false h12
    refine aw_exit ?_
    refine th_e ?_
    refine th_e ?_
    refine in_hit ?_
    obtain rfl : j = r + 1 := by omega
    exact ret_own_e (by first | exact .inl rfl | exact .inr rfl) rfl (rc_same rfl (.inl rfl)) (.keep (rfl) (by simp [scopedOb, scopedL, scopedV, hg, keysOf]) (.keep (rfl) rfl (.keep (rfl) rfl (.keep (rfl) rfl (.nil))))) (.cons rfl rfl rfl (.cons rfl rfl rfl (.dead rfl rfl (.nil))))

theorem fc85_at_n (g : AV) (hg : ∀ D, scopedV D g = true) (step : Int) (c a b : V3) (r : Nat) (hc : Bd 100 c) (ha : Bd 100 a) (hb : Bd 100 b) (hr : r ≤ 100) (hs : step < 0 ∨ (((arcV c a b r (r + 1)).length : Nat) : Int) ≤ step) (r0 : Loop) (h : Rec0 Tryd.prog 23 [15] as17 bd17 r0) : FC Tryd.prog 85 [.yl 900, .rp [iv (r : Int)], .rp (cV c), .rp (cV a), .rp (cV b)] [(900, .lp r0 [(14, g), (6, .ptr 6 0 0), (3, .ptr 3 0 0), (4, .ptr 4 0 0), (5, .ptr 5 0 0)]), (6, .cells 3 1 [[iv ((((arcV c a b r (0)).length) : Nat) : Int)]] true), (3, .cells 3 1 [[iv step]] true), (4, .cells 26 3 [cV ⟨0, 0, 0⟩] true), (5, .cells 4 1 [[.bool false]] true)] (.tup []) [(900, .lp r0 [(14, g), (6, .ptr 6 0 0), (3, .ptr 3 0 0), (4, .ptr 4 0 0), (5, .ptr 5 0 0)]), (6, .cells 3 1 [[iv ((((arcV c a b r (r + 1)).length) : Nat) : Int)]] true), (3, .cells 3 1 [[iv step]] true), (4, .cells 26 3 [cV ⟨0, 0, 0⟩] true), (5, .cells 4 1 [[.bool false]] true)] true := by
  refine fc_run (nt := 51) Tryd.func85 rfl rfl mcOk85 (Nat.le_of_ble_eq_true rfl) ?_
  delta mc85
  refine aw_seq ?_
  refine aw_reg ?_
  refine rs_ld_r rfl rfl rfl ?_
  refine rs_mv rfl rfl ?_
  refine rs_nil fun _ => ?_
  refine th_n ?_
  refine aw_seq ?_
  refine aw_reg ?_
  refine rs_ld_r rfl rfl rfl ?_
  refine rs_add rfl rfl rfl (by omega) ?_
  refine rs_mv rfl rfl ?_
  refine rs_nil fun _ => ?_
  refine th_n ?_
  refine aw_block ?_
  refine aw_fam (α := Nat) (fun j => r + 1 - j) (fun j => [(0, .yl 900), (1, .rp [iv (r : Int)]), (2, .rp (cV c)), (3, .rp (cV a)), (4, .rp (cV b)), (10, iv ((r : Int) + 1)), (6, iv ((iP r (j) : Nat) : Int)), (11, iv (((j) : Nat) : Int))]) (fun j => [(900, .lp r0 [(14, g), (6, .ptr 6 0 0), (3, .ptr 3 0 0), (4, .ptr 4 0 0), (5, .ptr 5 0 0)]), (6, .cells 3 1 [[iv ((((arcV c a b r (j)).length) : Nat) : Int)]] true), (3, .cells 3 1 [[iv step]] true), (4, .cells 26 3 [cV ⟨0, 0, 0⟩] true), (5, .cells 4 1 [[.bool false]] true)]) (fun j => j ≤ r + 1) 0 (by omega)
    (weak_to (.cons rfl (rc_same rfl (.inl rfl)) (.cons rfl (rc_same rfl (.inl rfl)) (.cons rfl (rc_same rfl (.inl rfl)) (.cons rfl (rc_same rfl (.inl rfl)) (.cons rfl (rc_same rfl (.inl rfl)) (.cons rfl (rc_same rfl (.inl rfl)) (.cons rfl (rc_same rfl (.inl rfl)) (.cons rfl (rc_same rfl (.inl rfl)) (.nil))))))))) (.keep (rfl) (by simp [scopedOb, scopedL, scopedV, hg, keysOf]) (.keep (rfl) rfl (.keep (rfl) rfl (.keep (rfl) rfl (.keep (rfl) rfl (.nil)))))) (fun i hi => by simp [keysOf] at hi ⊢; omega)) ?_
  intro j hj
  have q3 := sq_le hr
  refine aw_seq ?_
  refine aw_reg ?_
  refine rs_lss rfl rfl rfl ?_
  refine rs_nil fun _ => ?_
  refine th_n ?_
  refine aw_seq ?_
  refine aw_cond rfl (fun h12 => ?_) (fun h12 => ?_)
  · replace h12 := of_decide_eq_true h12
    refine aw_skip ?_
    refine th_n ?_
    refine aw_seq ?_
    refine aw_block ?_
    refine aw_seq ?_
    refine aw_reg ?_
    refine rs_mv rfl rfl ?_
    refine rs_mv rfl rfl ?_
    refine rs_nil fun _ => ?_
    refine th_n ?_
    refine aw_seq ?_
    refine aw_block ?_
    refine aw_fam (α := Nat) (fun i => i) (fun i => [(0, .yl 900), (1, .rp [iv (r : Int)]), (2, .rp (cV c)), (3, .rp (cV a)), (4, .rp (cV b)), (10, iv ((r : Int) + 1)), (6, iv (((i) : Nat) : Int)), (7, iv (j : Int)), (11, iv (((j) : Nat) : Int))]) (fun i => [(900, .lp r0 [(14, g), (6, .ptr 6 0 0), (3, .ptr 3 0 0), (4, .ptr 4 0 0), (5, .ptr 5 0 0)]), (6, .cells 3 1 [[iv ((((arcV c a b r (j)).length) : Nat) : Int)]] true), (3, .cells 3 1 [[iv step]] true), (4, .cells 26 3 [cV ⟨0, 0, 0⟩] true), (5, .cells 4 1 [[.bool false]] true)]) (fun i => dn r j i = iP r (j + 1) ∧ i ≤ r) (iP r j) (⟨rfl, iP_le r j⟩)
      (weak_to (.cons rfl (rc_same rfl (.inl rfl)) (.cons rfl (rc_same rfl (.inl rfl)) (.cons rfl (rc_same rfl (.inl rfl)) (.cons rfl (rc_same rfl (.inl rfl)) (.cons rfl (rc_same rfl (.inl rfl)) (.cons rfl (rc_same rfl (.inl rfl)) (.cons rfl (rc_same rfl (.inl rfl)) (.cons rfl (rc_same rfl (.inl rfl)) (.cons rfl (rc_same rfl (.inl rfl)) (.nil)))))))))) (.keep (rfl) (by simp [scopedOb, scopedL, scopedV, hg, keysOf]) (.keep (rfl) rfl (.keep (rfl) rfl (.keep (rfl) rfl (.keep (rfl) rfl (.nil)))))) (fun i hi => by simp [keysOf] at hi ⊢; omega)) ?_
    rintro i ⟨hi, hir⟩
    have q1 := sq_le hir
    have q2 := sq_le (i := j) (r := r) (by omega)
    refine aw_seq ?_
    refine aw_seq ?_
    refine aw_reg ?_
    refine rs_mv rfl rfl ?_
    refine rs_mv rfl rfl ?_
    refine rs_mulw rfl rfl rfl (sqW (by omega)) ?_
    refine rs_mv rfl rfl ?_
    refine rs_mv rfl rfl ?_
    refine rs_mulw rfl rfl rfl (sqW (by omega)) ?_
    refine rs_add rfl rfl rfl (by omega) ?_
    refine rs_ld_r rfl rfl rfl ?_
    refine rs_ld_r rfl rfl rfl ?_
    refine rs_mulw rfl rfl rfl (sqW (by omega)) ?_
    refine rs_gtr rfl rfl rfl ?_
    refine rs_nil fun _ => ?_
    refine th_n ?_
    refine aw_cond rfl (fun h24 => ?_) (fun h24 => ?_)
    · replace h24 := of_decide_eq_true h24
      refine aw_skip ?_
      refine th_n ?_
      refine aw_block ?_
      refine aw_reg ?_
      refine rs_mv rfl rfl ?_
      refine rs_sub rfl rfl rfl (by omega) ?_
      refine rs_mv rfl rfl ?_
      refine rs_nil fun _ => ?_
      refine in_n ?_
      refine th_n ?_
      rcases Nat.eq_zero_or_pos i with h0 | h0
      · exfalso; subst h0; omega
      obtain ⟨i, rfl⟩ : ∃ i0, i = i0 + 1 := ⟨i - 1, by omega⟩
      have hdn := dn_next (r := r) (j := j) (i := i) (by rw [← Int.natCast_add] at h24; exact Int.ofNat_lt.1 h24)
      exact ⟨i, ⟨by rw [← hdn]; exact hi, by omega⟩, by omega, weak_to (.cons rfl (rc_same rfl (.inl rfl)) (.cons rfl (rc_same rfl (.inl rfl)) (.cons rfl (rc_same rfl (.inl rfl)) (.cons rfl (rc_same rfl (.inl rfl)) (.cons rfl (rc_same rfl (.inl rfl)) (.cons rfl (rc_same rfl (.inl rfl)) (.cons rfl (rc_int (by omega)) (.cons rfl (rc_same rfl (.inl rfl)) (.cons rfl (rc_same rfl (.inl rfl)) (.nil)))))))))) (.keep (rfl) (by simp [scopedOb, scopedL, scopedV, hg, keysOf]) (.keep (rfl) rfl (.keep (rfl) rfl (.keep (rfl) rfl (.keep (rfl) rfl (.nil)))))) (fun i hi => by simp [keysOf] at hi ⊢; omega)⟩
    · replace h24 := of_decide_eq_false h24
      refine aw_exit ?_
      refine th_e ?_
      refine th_e ?_
      refine in_hit ?_
      refine th_n ?_
      refine aw_seq ?_
      refine aw_draw hmix ?_
      rw [dn_stop (by omega)] at hi
      subst hi
      refine rs_mv rfl rfl ?_
      refine rs_mv rfl rfl ?_
      refine rs_mulw rfl rfl rfl (sqW (by omega)) ?_
      refine rs_mv rfl rfl ?_
      refine rs_mv rfl rfl ?_
      refine rs_mulw rfl rfl rfl (sqW (by omega)) ?_
      refine rs_add rfl rfl rfl (by omega) ?_
      refine rs_ld_r rfl rfl rfl ?_
      refine rs_ld_r rfl rfl rfl ?_
      refine rs_mulw rfl rfl rfl (sqW (by omega)) ?_
      refine rs_cmp rfl rfl rfl rfl (fun h37 => ?_) (fun h37 => ?_)
      · skip
        have hcond : iP r (j + 1) * iP r (j + 1) + j * j = r * r := by rw [← Int.natCast_add] at h37; exact Int.ofNat_inj.1 h37
        refine rs_mv rfl rfl ?_
        refine rs_mv rfl rfl ?_
        refine rs_ld_ra rfl rfl (Nat.le_of_ble_eq_true rfl) rfl ?_
        refine rs_ld_ra rfl rfl (Nat.le_of_ble_eq_true rfl) rfl ?_
        refine rs_mv rfl rfl ?_
        refine rs_calln [] rfl rfl (fc78s hc.big ha.big (by omega)) (.cons (hv_same rfl) (.cons (hv_same rfl) (.cons (hv_same rfl) (.nil)))) rfl ?_
        refine rs_ld_ra rfl rfl (Nat.le_of_ble_eq_true rfl) rfl ?_
        refine rs_mv rfl rfl ?_
        refine rs_calln [] rfl rfl (fc78s (Bd.plus hc ha (q := 100) (by omega)).big hb.big (by omega)) (.cons (hv_same rfl) (.cons (hv_same rfl) (.cons (hv_same rfl) (.nil)))) rfl ?_
        refine rs_yield [(900, .lp r0 [(14, g), (6, .ptr 6 0 0), (3, .ptr 3 0 0), (4, .ptr 4 0 0), (5, .ptr 5 0 0)]), (6, .cells 3 1 [[iv ((((arcV c a b r (j)).length) : Nat) : Int)]] true), (3, .cells 3 1 [[iv step]] true), (4, .cells 26 3 [cV ⟨0, 0, 0⟩] true), (5, .cells 4 1 [[.bool false]] true)] rfl rfl rfl (y17_n g hg step ((arcV c a b r (j)).length) (by have := arcV_len c a b r j; omega) (by have := lt_of_at (arcV_lt (c := c) (a := a) (b := b) (show j ≤ r by omega) hcond); omega) _ r0 h) (.cons (hv_same rfl) (.cons (hv_same rfl) .nil)) (.cons rfl (.cons rfl (.cons rfl (.cons rfl (.cons rfl (.nil)))))) (by simp [scopedHs, scopedOb, scopedL, scopedV, scopedE, hg, keysOf]) rfl rfl ?_
        refine rs_not rfl rfl ?_
        refine rs_pick rfl rfl rfl ?_
        refine rs_nil ⟨by kernel_rfl, fun _ => ?_⟩
        refine th_n ?_
        refine aw_cond rfl (fun h => by cases h) (fun _ => ?_)
        refine aw_skip ?_
        refine in_n ?_
        refine th_n ?_
        refine aw_reg ?_
        refine rs_add rfl rfl rfl (by omega) ?_
        refine rs_mv rfl rfl ?_
        refine rs_nil fun _ => ?_
        refine th_n ?_
        (have e := arcV_t (c := c) (a := a) (b := b) rfl hcond
         exact ⟨j + 1, by omega, by omega, weak_to (.cons rfl (rc_same rfl (.inl rfl)) (.cons rfl (rc_same rfl (.inl rfl)) (.cons rfl (rc_same rfl (.inl rfl)) (.cons rfl (rc_same rfl (.inl rfl)) (.cons rfl (rc_same rfl (.inl rfl)) (.cons rfl (rc_same rfl (.inl rfl)) (.cons rfl (rc_same rfl (.inl rfl)) (.cons rfl (rc_same rfl (.inl rfl)) (.nil))))))))) (.keep (rfl) (by simp [scopedOb, scopedL, scopedV, hg, keysOf]) (.keep (by (rw [e, List.length_append]) <;> rfl) rfl (.keep (rfl) rfl (.keep (rfl) rfl (.keep (rfl) rfl (.nil)))))) (fun i hi => by simp [keysOf] at hi ⊢; omega)⟩)
      · skip
        have hcond : ¬ iP r (j + 1) * iP r (j + 1) + j * j = r * r := fun e => h37 (by rw [← Int.natCast_add, e])
        refine rs_mv rfl rfl ?_
        refine rs_skip rfl ?_
        refine rs_skip rfl ?_
        refine rs_skip rfl ?_
        refine rs_skip rfl ?_
        refine rs_skip rfl ?_
        refine rs_skip rfl ?_
        refine rs_skip rfl ?_
        refine rs_skip rfl ?_
        refine rs_skip rfl ?_
        refine rs_skip rfl ?_
        refine rs_pick rfl rfl rfl ?_
        refine rs_nil ⟨by kernel_rfl, fun _ => ?_⟩
        refine th_n ?_
        refine aw_cond rfl (fun h => by cases h) (fun _ => ?_)
        refine aw_skip ?_
        refine in_n ?_
        refine th_n ?_
        refine aw_reg ?_
        refine rs_add rfl rfl rfl (by omega) ?_
        refine rs_mv rfl rfl ?_
        refine rs_nil fun _ => ?_
        refine th_n ?_
        (have e := arcV_f (c := c) (a := a) (b := b) rfl hcond
         exact ⟨j + 1, by omega, by omega, weak_to (.cons rfl (rc_same rfl (.inl rfl)) (.cons rfl (rc_same rfl (.inl rfl)) (.cons rfl (rc_same rfl (.inl rfl)) (.cons rfl (rc_same rfl (.inl rfl)) (.cons rfl (rc_same rfl (.inl rfl)) (.cons rfl (rc_same rfl (.inl rfl)) (.cons rfl (rc_same rfl (.inl rfl)) (.cons rfl (rc_same rfl (.inl rfl)) (.nil))))))))) (.keep (rfl) (by simp [scopedOb, scopedL, scopedV, hg, keysOf]) (.keep (by (rw [e]) <;> rfl) rfl (.keep (rfl) rfl (.keep (rfl) rfl (.keep (rfl) rfl (.nil)))))) (fun i hi => by simp [keysOf] at hi ⊢; omega)⟩)
  · replace h12 := of_decide_eq_false h12
    refine aw_exit ?_
    refine th_e ?_
    refine th_e ?_
    refine in_hit ?_
    obtain rfl : j = r + 1 := by omega
    exact ret_own_e (by first | exact .inl rfl | exact .inr rfl) rfl (rc_same rfl (.inl rfl)) (.keep (rfl) (by simp [scopedOb, scopedL, scopedV, hg, keysOf]) (.keep (rfl) rfl (.keep (rfl) rfl (.keep (rfl) rfl (.keep (rfl) rfl (.nil)))))) (.cons rfl rfl rfl (.cons rfl rfl rfl (.cons rfl rfl rfl (.cons rfl rfl rfl (.cons rfl rfl rfl (.nil))))))

theorem fc85_at_s (g : AV) (hg : ∀ D, scopedV D g = true) (step : Int) (c a b : V3) (r : Nat) (hc : Bd 100 c) (ha : Bd 100 a) (hb : Bd 100 b) (hr : r ≤ 100) (s : Nat) (v : V3) (hs : (s : Int) = step) (hv : (arcV c a b r (r + 1))[s]? = some v) (r0 : Loop) (h : Rec0 Tryd.prog 23 [15] as17 bd17 r0) : FC Tryd.prog 85 [.yl 900, .rp [iv (r : Int)], .rp (cV c), .rp (cV a), .rp (cV b)] [(900, .lp r0 [(14, g), (6, .ptr 6 0 0), (3, .ptr 3 0 0), (4, .ptr 4 0 0), (5, .ptr 5 0 0)]), (6, .cells 3 1 [[iv ((((arcV c a b r (0)).length) : Nat) : Int)]] true), (3, .cells 3 1 [[iv step]] true), (4, .cells 26 3 [cV ⟨0, 0, 0⟩] true), (5, .cells 4 1 [[.bool false]] true)] (.tup []) [(900, .lp { r0 with state := .done, pending := some .ret } [(14, g), (6, .ptr 6 0 0), (3, .ptr 3 0 0), (4, .ptr 4 0 0), (5, .ptr 5 0 0)]), (6, .cells 3 1 [[iv (((s) : Nat) : Int)]] true), (3, .cells 3 1 [[iv step]] true), (4, .cells 26 3 [cV v] true), (5, .cells 4 1 [[.bool true]] true)] true := by
  refine fc_run (nt := 51) Tryd.func85 rfl rfl mcOk85 (Nat.le_of_ble_eq_true rfl) ?_
  delta mc85
  refine aw_seq ?_
  refine aw_reg ?_
  refine rs_ld_r rfl rfl rfl ?_
  refine rs_mv rfl rfl ?_
  refine rs_nil fun _ => ?_
  refine th_n ?_
  refine aw_seq ?_
  refine aw_reg ?_
  refine rs_ld_r rfl rfl rfl ?_
  refine rs_add rfl rfl rfl (by omega) ?_
  refine rs_mv rfl rfl ?_
  refine rs_nil fun _ => ?_
  refine th_n ?_
  refine aw_block ?_
  refine aw_fam (α := Nat) (fun j => r + 1 - j) (fun j => [(0, .yl 900), (1, .rp [iv (r : Int)]), (2, .rp (cV c)), (3, .rp (cV a)), (4, .rp (cV b)), (10, iv ((r : Int) + 1)), (6, iv ((iP r (j) : Nat) : Int)), (11, iv (((j) : Nat) : Int))]) (fun j => [(900, .lp r0 [(14, g), (6, .ptr 6 0 0), (3, .ptr 3 0 0), (4, .ptr 4 0 0), (5, .ptr 5 0 0)]), (6, .cells 3 1 [[iv ((((arcV c a b r (j)).length) : Nat) : Int)]] true), (3, .cells 3 1 [[iv step]] true), (4, .cells 26 3 [cV ⟨0, 0, 0⟩] true), (5, .cells 4 1 [[.bool false]] true)]) (fun j => j ≤ r + 1 ∧ (arcV c a b r (j)).length ≤ s) 0 (⟨by omega, Nat.zero_le _⟩)
    (weak_to (.cons rfl (rc_same rfl (.inl rfl)) (.cons rfl (rc_same rfl (.inl rfl)) (.cons rfl (rc_same rfl (.inl rfl)) (.cons rfl (rc_same rfl (.inl rfl)) (.cons rfl (rc_same rfl (.inl rfl)) (.cons rfl (rc_same rfl (.inl rfl)) (.cons rfl (rc_same rfl (.inl rfl)) (.cons rfl (rc_same rfl (.inl rfl)) (.nil))))))))) (.keep (rfl) (by simp [scopedOb, scopedL, scopedV, hg, keysOf]) (.keep (rfl) rfl (.keep (rfl) rfl (.keep (rfl) rfl (.keep (rfl) rfl (.nil)))))) (fun i hi => by simp [keysOf] at hi ⊢; omega)) ?_
  rintro j ⟨hj, hjs⟩
  have q3 := sq_le hr
  refine aw_seq ?_
  refine aw_reg ?_
  refine rs_lss rfl rfl rfl ?_
  refine rs_nil fun _ => ?_
  refine th_n ?_
  refine aw_seq ?_
  refine aw_cond rfl (fun h12 => ?_) (fun h12 => ?_)
  · replace h12 := of_decide_eq_true h12
    refine aw_skip ?_
    refine th_n ?_
    refine aw_seq ?_
    refine aw_block ?_
    refine aw_seq ?_
    refine aw_reg ?_
    refine rs_mv rfl rfl ?_
    refine rs_mv rfl rfl ?_
    refine rs_nil fun _ => ?_
    refine th_n ?_
    refine aw_seq ?_
    refine aw_block ?_
    refine aw_fam (α := Nat) (fun i => i) (fun i => [(0, .yl 900), (1, .rp [iv (r : Int)]), (2, .rp (cV c)), (3, .rp (cV a)), (4, .rp (cV b)), (10, iv ((r : Int) + 1)), (6, iv (((i) : Nat) : Int)), (7, iv (j : Int)), (11, iv (((j) : Nat) : Int))]) (fun i => [(900, .lp r0 [(14, g), (6, .ptr 6 0 0), (3, .ptr 3 0 0), (4, .ptr 4 0 0), (5, .ptr 5 0 0)]), (6, .cells 3 1 [[iv ((((arcV c a b r (j)).length) : Nat) : Int)]] true), (3, .cells 3 1 [[iv step]] true), (4, .cells 26 3 [cV ⟨0, 0, 0⟩] true), (5, .cells 4 1 [[.bool false]] true)]) (fun i => dn r j i = iP r (j + 1) ∧ i ≤ r) (iP r j) (⟨rfl, iP_le r j⟩)
      (weak_to (.cons rfl (rc_same rfl (.inl rfl)) (.cons rfl (rc_same rfl (.inl rfl)) (.cons rfl (rc_same rfl (.inl rfl)) (.cons rfl (rc_same rfl (.inl rfl)) (.cons rfl (rc_same rfl (.inl rfl)) (.cons rfl (rc_same rfl (.inl rfl)) (.cons rfl (rc_same rfl (.inl rfl)) (.cons rfl (rc_same rfl (.inl rfl)) (.cons rfl (rc_same rfl (.inl rfl)) (.nil)))))))))) (.keep (rfl) (by simp [scopedOb, scopedL, scopedV, hg, keysOf]) (.keep (rfl) rfl (.keep (rfl) rfl (.keep (rfl) rfl (.keep (rfl) rfl (.nil)))))) (fun i hi => by simp [keysOf] at hi ⊢; omega)) ?_
    rintro i ⟨hi, hir⟩
    have q1 := sq_le hir
    have q2 := sq_le (i := j) (r := r) (by omega)
    refine aw_seq ?_
    refine aw_seq ?_
    refine aw_reg ?_
    refine rs_mv rfl rfl ?_
    refine rs_mv rfl rfl ?_
    refine rs_mulw rfl rfl rfl (sqW (by omega)) ?_
    refine rs_mv rfl rfl ?_
    refine rs_mv rfl rfl ?_
    refine rs_mulw rfl rfl rfl (sqW (by omega)) ?_
    refine rs_add rfl rfl rfl (by omega) ?_
    refine rs_ld_r rfl rfl rfl ?_
    refine rs_ld_r rfl rfl rfl ?_
    refine rs_mulw rfl rfl rfl (sqW (by omega)) ?_
    refine rs_gtr rfl rfl rfl ?_
    refine rs_nil fun _ => ?_
    refine th_n ?_
    refine aw_cond rfl (fun h24 => ?_) (fun h24 => ?_)
    · replace h24 := of_decide_eq_true h24
      refine aw_skip ?_
      refine th_n ?_
      refine aw_block ?_
      refine aw_reg ?_
      refine rs_mv rfl rfl ?_
      refine rs_sub rfl rfl rfl (by omega) ?_
      refine rs_mv rfl rfl ?_
      refine rs_nil fun _ => ?_
      refine in_n ?_
      refine th_n ?_
      rcases Nat.eq_zero_or_pos i with h0 | h0
      · exfalso; subst h0; omega
      obtain ⟨i, rfl⟩ : ∃ i0, i = i0 + 1 := ⟨i - 1, by omega⟩
      have hdn := dn_next (r := r) (j := j) (i := i) (by rw [← Int.natCast_add] at h24; exact Int.ofNat_lt.1 h24)
      exact ⟨i, ⟨by rw [← hdn]; exact hi, by omega⟩, by omega, weak_to (.cons rfl (rc_same rfl (.inl rfl)) (.cons rfl (rc_same rfl (.inl rfl)) (.cons rfl (rc_same rfl (.inl rfl)) (.cons rfl (rc_same rfl (.inl rfl)) (.cons rfl (rc_same rfl (.inl rfl)) (.cons rfl (rc_same rfl (.inl rfl)) (.cons rfl (rc_int (by omega)) (.cons rfl (rc_same rfl (.inl rfl)) (.cons rfl (rc_same rfl (.inl rfl)) (.nil)))))))))) (.keep (rfl) (by simp [scopedOb, scopedL, scopedV, hg, keysOf]) (.keep (rfl) rfl (.keep (rfl) rfl (.keep (rfl) rfl (.keep (rfl) rfl (.nil)))))) (fun i hi => by simp [keysOf] at hi ⊢; omega)⟩
    · replace h24 := of_decide_eq_false h24
      refine aw_exit ?_
      refine th_e ?_
      refine th_e ?_
      refine in_hit ?_
      refine th_n ?_
      refine aw_seq ?_
      refine aw_draw hmix ?_
      rw [dn_stop (by omega)] at hi
      subst hi
      refine rs_mv rfl rfl ?_
      refine rs_mv rfl rfl ?_
      refine rs_mulw rfl rfl rfl (sqW (by omega)) ?_
      refine rs_mv rfl rfl ?_
      refine rs_mv rfl rfl ?_
      refine rs_mulw rfl rfl rfl (sqW (by omega)) ?_
      refine rs_add rfl rfl rfl (by omega) ?_
      refine rs_ld_r rfl rfl rfl ?_
      refine rs_ld_r rfl rfl rfl ?_
      refine rs_mulw rfl rfl rfl (sqW (by omega)) ?_
      refine rs_cmp rfl rfl rfl rfl (fun h37 => ?_) (fun h37 => ?_)
      · skip
        have hcond : iP r (j + 1) * iP r (j + 1) + j * j = r * r := by rw [← Int.natCast_add] at h37; exact Int.ofNat_inj.1 h37
        refine rs_mv rfl rfl ?_
        refine rs_mv rfl rfl ?_
        refine rs_ld_ra rfl rfl (Nat.le_of_ble_eq_true rfl) rfl ?_
        refine rs_ld_ra rfl rfl (Nat.le_of_ble_eq_true rfl) rfl ?_
        refine rs_mv rfl rfl ?_
        refine rs_calln [] rfl rfl (fc78s hc.big ha.big (by omega)) (.cons (hv_same rfl) (.cons (hv_same rfl) (.cons (hv_same rfl) (.nil)))) rfl ?_
        refine rs_ld_ra rfl rfl (Nat.le_of_ble_eq_true rfl) rfl ?_
        refine rs_mv rfl rfl ?_
        refine rs_calln [] rfl rfl (fc78s (Bd.plus hc ha (q := 100) (by omega)).big hb.big (by omega)) (.cons (hv_same rfl) (.cons (hv_same rfl) (.cons (hv_same rfl) (.nil)))) rfl ?_
        rcases Nat.lt_or_ge (arcV c a b r (j)).length s with hks | hks
        · skip
          refine rs_yield [(900, .lp r0 [(14, g), (6, .ptr 6 0 0), (3, .ptr 3 0 0), (4, .ptr 4 0 0), (5, .ptr 5 0 0)]), (6, .cells 3 1 [[iv ((((arcV c a b r (j)).length) : Nat) : Int)]] true), (3, .cells 3 1 [[iv step]] true), (4, .cells 26 3 [cV ⟨0, 0, 0⟩] true), (5, .cells 4 1 [[.bool false]] true)] rfl rfl rfl (y17_n g hg step ((arcV c a b r (j)).length) (by have := arcV_len c a b r j; omega) (by omega) _ r0 h) (.cons (hv_same rfl) (.cons (hv_same rfl) .nil)) (.cons rfl (.cons rfl (.cons rfl (.cons rfl (.cons rfl (.nil)))))) (by simp [scopedHs, scopedOb, scopedL, scopedV, scopedE, hg, keysOf]) rfl rfl ?_
          refine rs_not rfl rfl ?_
          refine rs_pick rfl rfl rfl ?_
          refine rs_nil ⟨by kernel_rfl, fun _ => ?_⟩
          refine th_n ?_
          refine aw_cond rfl (fun h => by cases h) (fun _ => ?_)
          refine aw_skip ?_
          refine in_n ?_
          refine th_n ?_
          refine aw_reg ?_
          refine rs_add rfl rfl rfl (by omega) ?_
          refine rs_mv rfl rfl ?_
          refine rs_nil fun _ => ?_
          refine th_n ?_
          (have e := arcV_t (c := c) (a := a) (b := b) rfl hcond
           exact ⟨j + 1, ⟨by omega, by rw [e]; simp; omega⟩, by omega, weak_to (.cons rfl (rc_same rfl (.inl rfl)) (.cons rfl (rc_same rfl (.inl rfl)) (.cons rfl (rc_same rfl (.inl rfl)) (.cons rfl (rc_same rfl (.inl rfl)) (.cons rfl (rc_same rfl (.inl rfl)) (.cons rfl (rc_same rfl (.inl rfl)) (.cons rfl (rc_same rfl (.inl rfl)) (.cons rfl (rc_same rfl (.inl rfl)) (.nil))))))))) (.keep (rfl) (by simp [scopedOb, scopedL, scopedV, hg, keysOf]) (.keep (by (rw [e, List.length_append]) <;> rfl) rfl (.keep (rfl) rfl (.keep (rfl) rfl (.keep (rfl) rfl (.nil)))))) (fun i hi => by simp [keysOf] at hi ⊢; omega)⟩)
        · have hks2 : (arcV c a b r (j)).length = s := by omega
          have hvv := arcV_lt (c := c) (a := a) (b := b) (show j ≤ r by omega) hcond
          rw [hks2, hv] at hvv
          injection hvv with hvv
          subst hvv
          subst hks2
          refine rs_yield (H' := [(900, .lp { r0 with state := .done, pending := some .ret } [(14, g), (6, .ptr 6 0 0), (3, .ptr 3 0 0), (4, .ptr 4 0 0), (5, .ptr 5 0 0)]), (6, .cells 3 1 [[iv ((((arcV c a b r (j)).length) : Nat) : Int)]] true), (3, .cells 3 1 [[iv step]] true), (4, .cells 26 3 [cV (plus (plus c a ((iP r (j + 1) : Nat) : Int)) b (j : Int))] true), (5, .cells 4 1 [[.bool true]] true)]) [(900, .lp r0 [(14, g), (6, .ptr 6 0 0), (3, .ptr 3 0 0), (4, .ptr 4 0 0), (5, .ptr 5 0 0)]), (6, .cells 3 1 [[iv ((((arcV c a b r (j)).length) : Nat) : Int)]] true), (3, .cells 3 1 [[iv step]] true), (4, .cells 26 3 [cV ⟨0, 0, 0⟩] true), (5, .cells 4 1 [[.bool false]] true)] rfl rfl rfl (y17_s g hg step (arcV c a b r (j)).length (by have := arcV_len c a b r j; omega) (by omega) (plus (plus c a ((iP r (j + 1) : Nat) : Int)) b (j : Int)) r0 h) (.cons (hv_same rfl) (.cons (hv_same rfl) .nil)) (.cons rfl (.cons rfl (.cons rfl (.cons rfl (.cons rfl (.nil)))))) (by simp [scopedHs, scopedOb, scopedL, scopedV, scopedE, hg, keysOf]) rfl rfl ?_
          refine rs_not rfl rfl ?_
          refine rs_pick rfl rfl rfl ?_
          refine rs_nil ⟨by kernel_rfl, fun _ => ?_⟩
          refine th_n ?_
          refine aw_cond rfl (fun _ => ?_) (fun h => by cases h)
          refine aw_ret ?_
          refine in_r ?_
          refine th_r ?_
          refine th_r ?_
          refine in_r ?_
          exact ret_own_e (by first | exact .inl rfl | exact .inr rfl) rfl (rc_same rfl (.inl rfl)) (.keep (rfl) (by simp [scopedOb, scopedL, scopedV, hg, keysOf]) (.keep (rfl) rfl (.keep (rfl) rfl (.keep (rfl) rfl (.keep (rfl) rfl (.nil)))))) (.cons rfl rfl rfl (.cons rfl rfl rfl (.cons rfl rfl rfl (.cons rfl rfl rfl (.cons rfl rfl rfl (.nil))))))
      · skip
        have hcond : ¬ iP r (j + 1) * iP r (j + 1) + j * j = r * r := fun e => h37 (by rw [← Int.natCast_add, e])
        refine rs_mv rfl rfl ?_
        refine rs_skip rfl ?_
        refine rs_skip rfl ?_
        refine rs_skip rfl ?_
        refine rs_skip rfl ?_
        refine rs_skip rfl ?_
        refine rs_skip rfl ?_
        refine rs_skip rfl ?_
        refine rs_skip rfl ?_
        refine rs_skip rfl ?_
        refine rs_skip rfl ?_
        refine rs_pick rfl rfl rfl ?_
        refine rs_nil ⟨by kernel_rfl, fun _ => ?_⟩
        refine th_n ?_
        refine aw_cond rfl (fun h => by cases h) (fun _ => ?_)
        refine aw_skip ?_
        refine in_n ?_
        refine th_n ?_
        refine aw_reg ?_
        refine rs_add rfl rfl rfl (by omega) ?_
        refine rs_mv rfl rfl ?_
        refine rs_nil fun _ => ?_
        refine th_n ?_
        (have e := arcV_f (c := c) (a := a) (b := b) rfl hcond
         exact ⟨j + 1, ⟨by omega, by rw [e]; omega⟩, by omega, weak_to (.cons rfl (rc_same rfl (.inl rfl)) (.cons rfl (rc_same rfl (.inl rfl)) (.cons rfl (rc_same rfl (.inl rfl)) (.cons rfl (rc_same rfl (.inl rfl)) (.cons rfl (rc_same rfl (.inl rfl)) (.cons rfl (rc_same rfl (.inl rfl)) (.cons rfl (rc_same rfl (.inl rfl)) (.cons rfl (rc_same rfl (.inl rfl)) (.nil))))))))) (.keep (rfl) (by simp [scopedOb, scopedL, scopedV, hg, keysOf]) (.keep (by (rw [e]) <;> rfl) rfl (.keep (rfl) rfl (.keep (rfl) rfl (.keep (rfl) rfl (.nil)))))) (fun i hi => by simp [keysOf] at hi ⊢; omega)⟩)
  · replace h12 := of_decide_eq_false h12
    refine aw_exit ?_
    refine th_e ?_
    refine th_e ?_
    refine in_hit ?_
    exfalso
    obtain rfl : j = r + 1 := by omega
    have := lt_of_at hv
    omega

end Go.Proofs.YteommcdafifckaaDoor
