/-
  The rules as they are used: one for each operation and each make of value.
-/
import Derived.Test.YtadjdnhnbkcakaaL18
namespace Go.Proofs.Ytadjdnhnbkcakaa
open Go.RowKit

/-- The guard says yes. -/
def gOK (F : Fr) : Option (Nat × Bool) → Bool
  | none => true
  | some (t, w) => match get F t with
    | some (.bool b) => b == w
    | _ => false

/-- The guard says no. -/
def gNo (F : Fr) : Option (Nat × Bool) → Bool
  | none => false
  | some (t, w) => match get F t with
    | some (.bool b) => b == !w
    | some .und => true
    | _ => false

section
variable {P : Program} {N : Nat} {F : Fr} {H : Hp} {ml : List MOper} {K : List Fp → Fr → Hp → Prop} {d : Nat} {g : Option (Nat × Bool)} {pre : List Nat}

theorem gOK_spec (h : gOK F g = true) : g = none ∨ ∃ t want, g = some (t, want) ∧ get F t = some (.bool want) := by
  cases g with
  | none => exact .inl rfl
  | some q =>
    obtain ⟨t, w⟩ := q
    simp only [gOK] at h
    split at h
    · rename_i b hb
      simp at h; subst h
      exact .inr ⟨t, b, rfl, hb⟩
    · cases h

theorem rs_op {mo : MOper} (hg : gOK F mo.guard = true) (h : mev F H (mo.dst.getD 0) (fun v rd wr H1 => RS P N ml (putF F mo.dst v) H1 (fun fps => K ((rd, wr) :: fps))) mo.op) : RS P N (mo :: ml) F H K :=
  rs_cons fun ops o hc => by
    obtain ⟨v, rd, wr, H1, hK, hs⟩ := stepM_op hc h (gOK_spec hg)
    exact ⟨v, rd, wr, H1, hs, hK⟩

theorem rs_skip {dst : Option Nat} {op : MOp} (hg : gNo F g = true) (h : RS P N ml (putF F dst .und) H (fun fps => K (([], []) :: fps))) : RS P N (⟨dst, op, g, pre⟩ :: ml) F H K :=
  rs_cons fun ops o hc => by
    cases g with
    | none => simp [gNo] at hg
    | some q =>
      obtain ⟨t, w⟩ := q
      refine ⟨.und, [], [], H, stepM_skip hc rfl ?_, h⟩
      simp only [gNo] at hg
      split at hg
      · rename_i b hb
        simp at hg; subst hg; exact .inl hb
      · rename_i hb; exact .inr hb
      · cases hg

theorem rs_mv {x : Arg} {v : AV} (hg : gOK F g = true) (hv : aarg F x = some v) (h : RS P N ml ((d, v) :: F) H (fun fps => K (([], []) :: fps))) : RS P N (⟨some d, .mv x, g, pre⟩ :: ml) F H K :=
  rs_op hg (by simp only [mev, hv]; exact h)

theorem rs_pick {c a b : Arg} {t : Bool} {v : AV} (hg : gOK F g = true) (hc : aarg F c = some (.bool t)) (hv : aarg F (if t = true then a else b) = some v) (h : RS P N ml ((d, v) :: F) H (fun fps => K (([], []) :: fps))) :
    RS P N (⟨some d, .pick c a b, g, pre⟩ :: ml) F H K :=
  rs_op hg (by simp only [mev, hc, hv]; exact h)

theorem rs_alloc {e z : Nat} {zero : List AV} (hg : gOK F g = true) (hz : zero.length = z) (hd : get H d = none) (h : RS P N ml ((d, .ptr d 0 0) :: F) ((d, .cells e z [zero] true) :: H) (fun fps => K (([], [d]) :: fps))) :
    RS P N (⟨some d, .alloc e z zero, g, pre⟩ :: ml) F H K :=
  rs_op hg (by simp only [mev]; exact ⟨hz, hd, h⟩)

theorem rs_box {e z : Nat} {x : Arg} {v : AV} {cs : List AV} {fl : Bool} (hg : gOK F g = true) (hv : aarg F x = some v) (hc : acells v = some cs) (hz : cs.length = z) (hd : get H d = none) (hf : closedL cs = fl)
    (h : RS P N ml ((d, .ptr d 0 0) :: F) ((d, .cells e z [cs] fl) :: H) (fun fps => K (([], [d]) :: fps))) : RS P N (⟨some d, .box e z x, g, pre⟩ :: ml) F H K :=
  rs_op hg (by simp only [mev, hv, hc]; subst hf; exact ⟨hz, hd, h⟩)

theorem rs_build {zero cs : List AV} {ps : List (Nat × Nat × Arg)} (hg : gOK F g = true) (hf : fillA F zero ps = some cs) (h : RS P N ml ((d, .agg cs) :: F) H (fun fps => K (([], []) :: fps))) : RS P N (⟨some d, .build zero ps, g, pre⟩ :: ml) F H K :=
  rs_op hg (by simp only [mev, hf]; exact h)

theorem rs_bslice {e z len : Nat} {zero l : List AV} {els : List (List AV)} {ps : List (Nat × Arg)} {fl : Bool} (hg : gOK F g = true) (hf : fillS F z (reps len zero) ps = some l) (hz : zero.length = z) (hd : get H d = none) (he : chunks z len l = els) (hfl : closedL l = fl)
    (h : RS P N ml ((d, .sl d 0 len) :: F) ((d, .cells e z els fl) :: H) (fun fps => K (([], [d]) :: fps))) : RS P N (⟨some d, .bslice e z zero len ps, g, pre⟩ :: ml) F H K :=
  rs_op hg (by simp only [mev, hf]; subst he hfl; exact ⟨hz, hd, h⟩)

theorem rs_ld_p {n i j o e z : Nat} {x : Arg} {els : List (List AV)} {fl : Bool} {el : List AV} {v : AV} (hg : gOK F g = true) (hx : aarg F x = some (.ptr i j o)) (hi : get H i = some (.cells e z els fl)) (hj : els[j]? = some el) (hv : el[o]? = some v)
    (h : RS P N ml ((d, v) :: F) H (fun fps => K (([i], []) :: fps))) : RS P N (⟨some d, .ld false n x, g, pre⟩ :: ml) F H K :=
  rs_op hg (by simp only [mev, hx, hi, hj, hv, Bool.false_eq_true, if_false]; exact h)

theorem rs_ld_pa {n i j o e z : Nat} {x : Arg} {els : List (List AV)} {fl : Bool} {el cs : List AV} (hg : gOK F g = true) (hx : aarg F x = some (.ptr i j o)) (hi : get H i = some (.cells e z els fl)) (hj : els[j]? = some el) (hn : o + n ≤ el.length) (hc : (el.drop o).take n = cs)
    (h : RS P N ml ((d, .agg cs) :: F) H (fun fps => K (([i], []) :: fps))) : RS P N (⟨some d, .ld true n x, g, pre⟩ :: ml) F H K :=
  rs_op hg (by simp only [mev, hx, hi, hj, if_true]; subst hc; exact ⟨hn, h⟩)

theorem rs_ld_r {n : Nat} {x : Arg} {cs : List AV} {v : AV} (hg : gOK F g = true) (hx : aarg F x = some (.rp cs)) (hv : cs[0]? = some v) (h : RS P N ml ((d, v) :: F) H (fun fps => K (([], []) :: fps))) : RS P N (⟨some d, .ld false n x, g, pre⟩ :: ml) F H K :=
  rs_op hg (by simp only [mev, hx, hv, Bool.false_eq_true, if_false]; exact h)

theorem rs_ld_ra {n : Nat} {x : Arg} {cs cs' : List AV} (hg : gOK F g = true) (hx : aarg F x = some (.rp cs)) (hn : n ≤ cs.length) (hc : cs.take n = cs') (h : RS P N ml ((d, .agg cs') :: F) H (fun fps => K (([], []) :: fps))) :
    RS P N (⟨some d, .ld true n x, g, pre⟩ :: ml) F H K :=
  rs_op hg (by simp only [mev, hx, if_true]; subst hc; exact ⟨hn, h⟩)

theorem rs_st {n i j o e z : Nat} {x y : Arg} {els els' : List (List AV)} {fl fl' : Bool} {el cs : List AV} {u : AV} (hg : gOK F g = true) (hx : aarg F x = some (.ptr i j o)) (hy : aarg F y = some u) (hi : get H i = some (.cells e z els fl)) (hc : acells u = some cs)
    (hj : els[j]? = some el) (hn : cs.length = n) (ho : o + n ≤ el.length) (he : els.set j (setAt el o cs) = els') (hfl : (fl && closedL cs) = fl')
    (h : RS P N ml F ((i, .cells e z els' fl') :: H) (fun fps => K (([], [i]) :: fps))) : RS P N (⟨none, .st n x y, g, pre⟩ :: ml) F H K :=
  rs_op hg (by simp only [mev, hx, hy, hi, hc, hj]; subst he hfl; exact ⟨hn, ho, h⟩)

theorem rs_nilc_p {x : Arg} {i j o : Nat} (hg : gOK F g = true) (hx : aarg F x = some (.ptr i j o)) (h : RS P N ml ((d, .ptr i j o) :: F) H (fun fps => K (([], []) :: fps))) : RS P N (⟨some d, .nilc x, g, pre⟩ :: ml) F H K :=
  rs_op hg (by simp only [mev, hx]; exact h)
theorem rs_nilc_r {x : Arg} {cs : List AV} (hg : gOK F g = true) (hx : aarg F x = some (.rp cs)) (h : RS P N ml ((d, .rp cs) :: F) H (fun fps => K (([], []) :: fps))) : RS P N (⟨some d, .nilc x, g, pre⟩ :: ml) F H K :=
  rs_op hg (by simp only [mev, hx]; exact h)

/-- A binary operator, whatever it gives. -/
theorem rs_bin {op : BinOp} {x y : Arg} {k k' : IntKind} {a b : Int} (hg : gOK F g = true) (hx : aarg F x = some (.int k a)) (hy : aarg F y = some (.int k' b))
    (h : binV op k k' a b fun v => RS P N ml ((d, v) :: F) H (fun fps => K (([], []) :: fps))) : RS P N (⟨some d, .bin op x y, g, pre⟩ :: ml) F H K :=
  rs_op hg (by simp only [mev, hx, hy]; exact h)

theorem wrap64_eq {n : Int} (h : -9223372036854775808 ≤ n ∧ n ≤ 9223372036854775807) : IntKind.i64.wrap n = n := by rw [IntKind.wrap_i64]; omega

theorem rs_add {x y : Arg} {a b : Int} (hg : gOK F g = true) (hx : aarg F x = some (.int .i64 a)) (hy : aarg F y = some (.int .i64 b)) (hr : -9223372036854775808 ≤ a + b ∧ a + b ≤ 9223372036854775807)
    (h : RS P N ml ((d, .int .i64 (a + b)) :: F) H (fun fps => K (([], []) :: fps))) : RS P N (⟨some d, .bin .add x y, g, pre⟩ :: ml) F H K :=
  rs_bin hg hx hy ⟨rfl, by rw [wrap64_eq hr]; exact h⟩
theorem rs_sub {x y : Arg} {a b : Int} (hg : gOK F g = true) (hx : aarg F x = some (.int .i64 a)) (hy : aarg F y = some (.int .i64 b)) (hr : -9223372036854775808 ≤ a - b ∧ a - b ≤ 9223372036854775807)
    (h : RS P N ml ((d, .int .i64 (a - b)) :: F) H (fun fps => K (([], []) :: fps))) : RS P N (⟨some d, .bin .sub x y, g, pre⟩ :: ml) F H K :=
  rs_bin hg hx hy ⟨rfl, by rw [wrap64_eq hr]; exact h⟩

/-- A comparison that is decided. -/
def cmpV (op : BinOp) (a b : Int) : Option Prop :=
  match op with
  | .eql => some (a = b)
  | .neq => some (a ≠ b)
  | .lss => some (a < b)
  | .leq => some (a ≤ b)
  | .gtr => some (b < a)
  | .geq => some (b ≤ a)
  | _ => none

theorem rs_cmp_t {op : BinOp} {x y : Arg} {k : IntKind} {a b : Int} {p : Prop} (hg : gOK F g = true) (hx : aarg F x = some (.int k a)) (hy : aarg F y = some (.int k b)) (hop : cmpV op a b = some p) (hp : p)
    (h : RS P N ml ((d, .bool true) :: F) H (fun fps => K (([], []) :: fps))) : RS P N (⟨some d, .bin op x y, g, pre⟩ :: ml) F H K :=
  rs_bin hg hx hy (by
    cases op <;> simp only [cmpV, Option.some.injEq] at hop <;> first | cases hop | skip
    all_goals
      first
        | exact ⟨rfl, by rw [show (a == b) = true by simpa using hp]; exact h⟩
        | exact ⟨rfl, by rw [show (a != b) = true by simpa using hp]; exact h⟩
        | exact ⟨rfl, by rw [show decide (a < b) = true by simpa using hp]; exact h⟩
        | exact ⟨rfl, by rw [show decide (a ≤ b) = true by simpa using hp]; exact h⟩
        | exact ⟨rfl, by rw [show decide (a > b) = true by simpa using hp]; exact h⟩
        | exact ⟨rfl, by rw [show decide (a ≥ b) = true by simpa using hp]; exact h⟩)

theorem rs_cmp_f {op : BinOp} {x y : Arg} {k : IntKind} {a b : Int} {p : Prop} (hg : gOK F g = true) (hx : aarg F x = some (.int k a)) (hy : aarg F y = some (.int k b)) (hop : cmpV op a b = some p) (hp : ¬ p)
    (h : RS P N ml ((d, .bool false) :: F) H (fun fps => K (([], []) :: fps))) : RS P N (⟨some d, .bin op x y, g, pre⟩ :: ml) F H K :=
  rs_bin hg hx hy (by
    cases op <;> simp only [cmpV, Option.some.injEq] at hop <;> first | cases hop | skip
    all_goals
      first
        | exact ⟨rfl, by rw [show (a == b) = false by simpa using hp]; exact h⟩
        | exact ⟨rfl, by rw [show (a != b) = false by simpa using hp]; exact h⟩
        | exact ⟨rfl, by rw [show decide (a < b) = false by simpa using hp]; exact h⟩
        | exact ⟨rfl, by rw [show decide (a ≤ b) = false by simpa using hp]; exact h⟩
        | exact ⟨rfl, by rw [show decide (a > b) = false by simpa using hp]; exact h⟩
        | exact ⟨rfl, by rw [show decide (a ≥ b) = false by simpa using hp]; exact h⟩)

theorem rs_not {x : Arg} {b : Bool} (hg : gOK F g = true) (hx : aarg F x = some (.bool b)) (h : RS P N ml ((d, .bool (!b)) :: F) H (fun fps => K (([], []) :: fps))) : RS P N (⟨some d, .un .not x, g, pre⟩ :: ml) F H K :=
  rs_op hg (by simp only [mev, hx]; exact h)
theorem rs_neg {x : Arg} {n : Int} (hg : gOK F g = true) (hx : aarg F x = some (.int .i64 n)) (hr : -9223372036854775807 ≤ n ∧ n ≤ 9223372036854775807) (h : RS P N ml ((d, .int .i64 (-n)) :: F) H (fun fps => K (([], []) :: fps))) : RS P N (⟨some d, .un .neg x, g, pre⟩ :: ml) F H K :=
  rs_op hg (by simp only [mev, hx]; rw [wrap64_eq (by omega), Int.zero_sub]; exact h)
theorem rs_cvt {x : Arg} {k k' : IntKind} {n m : Int} (hg : gOK F g = true) (hx : aarg F x = some (.int k' n)) (hw : k.wrap n = m) (h : RS P N ml ((d, .int k m) :: F) H (fun fps => K (([], []) :: fps))) : RS P N (⟨some d, .cvt k x, g, pre⟩ :: ml) F H K :=
  rs_op hg (by simp only [mev, hx]; subst hw; exact h)
theorem rs_mkfn {fn : Fn} {caps : List Arg} {vs : List AV} (hg : gOK F g = true) (hv : aargs F caps = some vs) (h : RS P N ml ((d, .fn fn vs) :: F) H (fun fps => K (([], []) :: fps))) : RS P N (⟨some d, .mkfn fn caps, g, pre⟩ :: ml) F H K :=
  rs_op hg (by simp only [mev, hv]; exact h)
theorem rs_mksl {e z by_ : Nat} {zero : List AV} {l c : Arg} {n : Int} (hg : gOK F g = true) (hl : aarg F l = some (.int .i64 n)) (hc : aarg F c = some (.int .i64 n)) (hz : zero.length = z) (hd : get H d = none) (h0 : 0 ≤ n) (h63 : n ≤ 9223372036854775807) (hb : (by_ : Int) * n ≤ 281474976710656)
    (h : RS P N ml ((d, .sl d 0 n.toNat) :: F) ((d, .cells e z (List.replicate n.toNat zero) true) :: H) (fun fps => K (([], [d]) :: fps))) : RS P N (⟨some d, .mksl e z by_ zero l c, g, pre⟩ :: ml) F H K :=
  rs_op hg (by simp only [mev, hl, hc]; exact ⟨hz, hd, h0, trivial, h63, hb, h⟩)
theorem rs_slc_r {z z' : Nat} {x : Arg} {lo hi : Option Arg} {els els' : List (List AV)} {l q : Int} (hg : gOK F g = true) (hx : aarg F x = some (.rs z' els)) (hl : abound F 0 lo = some l) (hh : abound F els.length hi = some q) (hz : z' = z) (h0 : 0 ≤ l) (h1 : l ≤ q) (h2 : q ≤ els.length)
    (he : (els.drop l.toNat).take (q.toNat - l.toNat) = els') (h : RS P N ml ((d, .rs z els') :: F) H (fun fps => K (([], []) :: fps))) : RS P N (⟨some d, .slc z x lo hi, g, pre⟩ :: ml) F H K :=
  rs_op hg (by simp only [mev, hx, hl, hh]; subst he; exact ⟨.inl hz, h0, h1, h2, h⟩)
theorem rs_slc_s {z i j n e : Nat} {x : Arg} {lo hi : Option Arg} {els : List (List AV)} {fl : Bool} {l q : Int} (hg : gOK F g = true) (hx : aarg F x = some (.sl i j n)) (hl : abound F 0 lo = some l) (hh : abound F n hi = some q) (hi' : get H i = some (.cells e z els fl)) (h0 : 0 ≤ l) (hlq : l = 0 ∨ l < q) (h1 : l ≤ q) (h2 : q ≤ n)
    (h : RS P N ml ((d, .sl i (j + l.toNat) (q.toNat - l.toNat)) :: F) H (fun fps => K (([i], []) :: fps))) : RS P N (⟨some d, .slc z x lo hi, g, pre⟩ :: ml) F H K :=
  rs_op hg (by simp only [mev, hx, hl, hh, hi']; exact ⟨trivial, h0, hlq, h1, h2, h⟩)
theorem rs_slarr {n i j o : Nat} {x : Arg} {lo hi : Option Arg} {l q : Int} (hg : gOK F g = true) (hx : aarg F x = some (.ptr i j o)) (hl : abound F 0 lo = some l) (hh : abound F n hi = some q) (h0 : 0 ≤ l) (hlq : l = 0 ∨ l < q) (h1 : l ≤ q) (h2 : q ≤ n)
    (h : RS P N ml ((d, .sa i j (o + l.toNat) (q.toNat - l.toNat)) :: F) H (fun fps => K (([], []) :: fps))) : RS P N (⟨some d, .slarr n x lo hi, g, pre⟩ :: ml) F H K :=
  rs_op hg (by simp only [mev, hx, hl, hh]; exact ⟨h0, hlq, h1, h2, h⟩)
theorem rs_fa_p {off i j o : Nat} {x : Arg} (hg : gOK F g = true) (hx : aarg F x = some (.ptr i j o)) (h : RS P N ml ((d, .ptr i j (o + off)) :: F) H (fun fps => K (([], []) :: fps))) : RS P N (⟨some d, .fa off x, g, pre⟩ :: ml) F H K :=
  rs_op hg (by simp only [mev, hx]; exact h)
theorem rs_fa_r {off : Nat} {x : Arg} {cs cs' : List AV} (hg : gOK F g = true) (hx : aarg F x = some (.rp cs)) (hc : cs.drop off = cs') (h : RS P N ml ((d, .rp cs') :: F) H (fun fps => K (([], []) :: fps))) : RS P N (⟨some d, .fa off x, g, pre⟩ :: ml) F H K :=
  rs_op hg (by simp only [mev, hx]; subst hc; exact h)
theorem rs_fld {off n : Nat} {x : Arg} {cs : List AV} {v : AV} (hg : gOK F g = true) (hx : aarg F x = some (.agg cs)) (hv : cs[off]? = some v) (h : RS P N ml ((d, v) :: F) H (fun fps => K (([], []) :: fps))) : RS P N (⟨some d, .fld false off n x, g, pre⟩ :: ml) F H K :=
  rs_op hg (by simp only [mev, hx, hv, Bool.false_eq_true, if_false]; exact h)
theorem rs_flda {off n : Nat} {x : Arg} {cs cs' : List AV} (hg : gOK F g = true) (hx : aarg F x = some (.agg cs)) (hn : off + n ≤ cs.length) (hc : (cs.drop off).take n = cs') (h : RS P N ml ((d, .agg cs') :: F) H (fun fps => K (([], []) :: fps))) : RS P N (⟨some d, .fld true off n x, g, pre⟩ :: ml) F H K :=
  rs_op hg (by simp only [mev, hx, if_true]; subst hc; exact ⟨hn, h⟩)
theorem rs_ix_r {z : Nat} {x i : Arg} {els : List (List AV)} {k : IntKind} {t : Int} {el : List AV} (hg : gOK F g = true) (hx : aarg F x = some (.rs z els)) (hi : aarg F i = some (.int k t)) (h0 : 0 ≤ t) (h1 : t < els.length) (he : els[t.toNat]? = some el)
    (h : RS P N ml ((d, .rp el) :: F) H (fun fps => K (([], []) :: fps))) : RS P N (⟨some d, .ixsl z x i, g, pre⟩ :: ml) F H K :=
  rs_op hg (by simp only [mev, hx, hi, he]; exact ⟨h0, h1, trivial, h⟩)
theorem rs_ix_s {z a j n e : Nat} {x i : Arg} {k : IntKind} {t : Int} {els : List (List AV)} {fl : Bool} (hg : gOK F g = true) (hx : aarg F x = some (.sl a j n)) (hi : aarg F i = some (.int k t)) (ha : get H a = some (.cells e z els fl)) (h0 : 0 ≤ t) (h1 : t < n)
    (h : RS P N ml ((d, .ptr a (j + t.toNat) 0) :: F) H (fun fps => K (([a], []) :: fps))) : RS P N (⟨some d, .ixsl z x i, g, pre⟩ :: ml) F H K :=
  rs_op hg (by simp only [mev, hx, hi, ha]; exact ⟨h0, h1, trivial, h⟩)
theorem rs_ixarr_p {len z a j o : Nat} {x i : Arg} {k : IntKind} {t : Int} (hg : gOK F g = true) (hx : aarg F x = some (.ptr a j o)) (hi : aarg F i = some (.int k t)) (h0 : 0 ≤ t) (h1 : t < len)
    (h : RS P N ml ((d, .ptr a j (o + t.toNat * z)) :: F) H (fun fps => K (([], []) :: fps))) : RS P N (⟨some d, .ixarr len z x i, g, pre⟩ :: ml) F H K :=
  rs_op hg (by simp only [mev, hx, hi]; exact ⟨h0, h1, h⟩)
theorem rs_ixarr_r {len z : Nat} {x i : Arg} {cs cs' : List AV} {k : IntKind} {t : Int} (hg : gOK F g = true) (hx : aarg F x = some (.rp cs)) (hi : aarg F i = some (.int k t)) (h0 : 0 ≤ t) (h1 : t < len) (hc : cs.drop (t.toNat * z) = cs')
    (h : RS P N ml ((d, .rp cs') :: F) H (fun fps => K (([], []) :: fps))) : RS P N (⟨some d, .ixarr len z x i, g, pre⟩ :: ml) F H K :=
  rs_op hg (by simp only [mev, hx, hi]; subst hc; exact ⟨h0, h1, h⟩)
theorem rs_ixval {len z : Nat} {x i : Arg} {cs : List AV} {k : IntKind} {t : Int} {v : AV} (hg : gOK F g = true) (hx : aarg F x = some (.agg cs)) (hi : aarg F i = some (.int k t)) (h0 : 0 ≤ t) (h1 : t < len) (hv : cs[t.toNat * z]? = some v)
    (h : RS P N ml ((d, v) :: F) H (fun fps => K (([], []) :: fps))) : RS P N (⟨some d, .ixval len z false x i, g, pre⟩ :: ml) F H K :=
  rs_op hg (by simp only [mev, hx, hi, hv, Bool.false_eq_true, if_false]; exact ⟨h0, h1, h⟩)
theorem rs_ixvala {len z : Nat} {x i : Arg} {cs cs' : List AV} {k : IntKind} {t : Int} (hg : gOK F g = true) (hx : aarg F x = some (.agg cs)) (hi : aarg F i = some (.int k t)) (h0 : 0 ≤ t) (h1 : t < len) (hn : t.toNat * z + z ≤ cs.length) (hc : (cs.drop (t.toNat * z)).take z = cs')
    (h : RS P N ml ((d, .agg cs') :: F) H (fun fps => K (([], []) :: fps))) : RS P N (⟨some d, .ixval len z true x i, g, pre⟩ :: ml) F H K :=
  rs_op hg (by simp only [mev, hx, hi, if_true]; subst hc; exact ⟨h0, h1, hn, h⟩)
theorem rs_ext {x : Arg} {i : Nat} {vs : List AV} {v : AV} (hg : gOK F g = true) (hx : aarg F x = some (.tup vs)) (hv : vs[i]? = some v) (h : RS P N ml ((d, v) :: F) H (fun fps => K (([], []) :: fps))) : RS P N (⟨some d, .ext x i, g, pre⟩ :: ml) F H K :=
  rs_op hg (by simp only [mev, hx, hv]; exact h)
theorem rs_len_r {z : Nat} {x : Arg} {els : List (List AV)} {n : Nat} (hg : gOK F g = true) (hx : aarg F x = some (.rs z els)) (hn : els.length = n) (h : RS P N ml ((d, .int .i64 n) :: F) H (fun fps => K (([], []) :: fps))) : RS P N (⟨some d, .len x, g, pre⟩ :: ml) F H K :=
  rs_op hg (by simp only [mev, hx]; subst hn; exact h)
theorem rs_len_s {i j n : Nat} {x : Arg} (hg : gOK F g = true) (hx : aarg F x = some (.sl i j n)) (h : RS P N ml ((d, .int .i64 n) :: F) H (fun fps => K (([], []) :: fps))) : RS P N (⟨some d, .len x, g, pre⟩ :: ml) F H K :=
  rs_op hg (by simp only [mev, hx]; exact h)
theorem rs_len_n {x : Arg} (hg : gOK F g = true) (hx : aarg F x = some .nils) (h : RS P N ml ((d, .int .i64 0) :: F) H (fun fps => K (([], []) :: fps))) : RS P N (⟨some d, .len x, g, pre⟩ :: ml) F H K :=
  rs_op hg (by simp only [mev, hx]; exact h)
theorem rs_lenc {n : Nat} (hg : gOK F g = true) (h : RS P N ml ((d, .int .i64 n) :: F) H (fun fps => K (([], []) :: fps))) : RS P N (⟨some d, .lenc n, g, pre⟩ :: ml) F H K :=
  rs_op hg (by simp only [mev]; exact h)
theorem rs_app_n {e z by_ n : Nat} {zero : List AV} {s x : Arg} {v : AV} {rd : List Nat} {news : List (List AV)} {fl : Bool} (hg : gOK F g = true) (hs : aarg F s = some .nils) (hx : aarg F x = some v) (hsrc : srcOf H z v = some (rd, news)) (hz : zero.length = z) (hd : get H d = none)
    (hn : ∀ el ∈ news, el.length = z) (hl : news.length = n) (hb : n * by_ ≤ 140737488355328) (h63 : n ≤ 9223372036854775807) (hfl : flatE news = fl)
    (h : RS P N ml ((d, .sl d 0 n) :: F) ((d, .cells e z news fl) :: H) (fun fps => K ((rd, [d]) :: fps))) : RS P N (⟨some d, .app e z by_ zero s x, g, pre⟩ :: ml) F H K :=
  rs_op hg (by subst hl hfl; simp only [mev, hs, hx, hsrc]; exact ⟨hz, hd, hn, hb, h63, h⟩)
theorem rs_app {e z by_ i n m : Nat} {zero : List AV} {s x : Arg} {v : AV} {rd : List Nat} {els news : List (List AV)} {fl fl' : Bool} (hg : gOK F g = true) (hs : aarg F s = some (.sl i 0 n)) (hx : aarg F x = some v) (hi : get H i = some (.cells e z els fl)) (hsrc : srcOf H z v = some (rd, news))
    (hz : zero.length = z) (hd : get H d = none) (hl : els.length = n) (hird : i ∉ rd) (hn : ∀ el ∈ news, el.length = z) (hm : news.length = m) (hb : (n + m) * by_ ≤ 140737488355328) (h63 : n + m ≤ 9223372036854775807) (hfl : (fl && flatE news) = fl')
    (h : RS P N ml ((d, .sl d 0 (n + m)) :: F) ((d, .cells e z (els ++ news) fl') :: (i, .dead) :: H) (fun fps => K ((rd, [i, d]) :: fps))) : RS P N (⟨some d, .app e z by_ zero s x, g, pre⟩ :: ml) F H K :=
  rs_op hg (by subst hm hfl; simp only [mev, hs, hx, hi, hsrc]; exact ⟨hz, hd, trivial, trivial, hl, hird, hn, hb, h63, h⟩)
theorem rs_cpy {i j o n e z m : Nat} {x y : Arg} {v : AV} {els els' news : List (List AV)} {fl fl' : Bool} {el : List AV} {rd : List Nat} (hg : gOK F g = true) (hx : aarg F x = some (.sa i j o n)) (hy : aarg F y = some v) (hi : get H i = some (.cells e z els fl)) (hsrc : srcOf H 1 v = some (rd, news)) (hj : els[j]? = some el)
    (hn : ∀ c ∈ news, c.length = 1) (hird : i ∉ rd) (hm : news.length = m) (hmn : m ≤ n) (ho : o + m ≤ el.length) (he : els.set j (setAt el o news.flatten) = els') (hfl : (fl && flatE news) = fl')
    (h : RS P N ml ((d, .int .i64 m) :: F) ((i, .cells e z els' fl') :: H) (fun fps => K ((rd, [i]) :: fps))) : RS P N (⟨some d, .cpy x y, g, pre⟩ :: ml) F H K :=
  rs_op hg (by subst hm he hfl; simp only [mev, hx, hy, hi, hsrc, hj]; exact ⟨hn, hird, hmn, ho, h⟩)
theorem rs_mn {x y : Arg} {k k' : IntKind} {a b c : Int} (hg : gOK F g = true) (hx : aarg F x = some (.int k a)) (hy : aarg F y = some (.int k' b)) (hc : min a b = c) (h : RS P N ml ((d, .int k c) :: F) H (fun fps => K (([], []) :: fps))) : RS P N (⟨some d, .mn x y, g, pre⟩ :: ml) F H K :=
  rs_op hg (by simp only [mev, hx, hy]; subst hc; exact h)
theorem rs_mx {x y : Arg} {k k' : IntKind} {a b c : Int} (hg : gOK F g = true) (hx : aarg F x = some (.int k a)) (hy : aarg F y = some (.int k' b)) (hc : max a b = c) (h : RS P N ml ((d, .int k c) :: F) H (fun fps => K (([], []) :: fps))) : RS P N (⟨some d, .mx x y, g, pre⟩ :: ml) F H K :=
  rs_op hg (by simp only [mev, hx, hy]; subst hc; exact h)

/-- One value into a call. -/
def HV (H Hs : Hp) (rd : List Nat) (al : Bool) (v v' : AV) : Prop :=
  ∀ (w : World) (S : Nat → Prop) (ρ : Rho) (c : Value), HRi (fun i => i ∈ rd ∨ get Hs i ≠ none) w S ρ H → VR w S ρ v c →
    VR w (fun b => S b ∨ (al = false ∧ LiveB ρ H (fun i => i ∈ rd) b)) (fun i => if get Hs i ≠ none then ρ i else none) v' c

theorem hv_same {Hs : Hp} {rd : List Nat} {al : Bool} {v : AV} (hs : scopedV (keysOf Hs) v = true) : HV H Hs rd al v v := fun w S ρ c _ h =>
  (h.scope hs (fun i hi => if_pos (mem_keys.1 hi))).mono (fun b hb => .inl hb) (fun _ _ _ h => h) (fun _ _ h => h)
theorem hv_nils {Hs : Hp} {rd : List Nat} {al : Bool} {z : Nat} : HV H Hs rd al .nils (.rs z []) := fun w S ρ c _ h => by
  rw [h.nils_inv]; exact .cl (.rs0 z none 0)
theorem hv_sl {Hs : Hp} {rd : List Nat} {i e z j n : Nat} {els els' : List (List AV)} (hi : i ∈ rd) (hg : get H i = some (.cells e z els true)) (hb : j + n ≤ els.length) (he : (els.drop j).take n = els') : HV H Hs rd false (.sl i j n) (.rs z els') := fun w S ρ c hh hv => by
  subst he
  have hlen : ((els.drop j).take n).length = n := by simp; omega
  rcases hv.sl_inv with ⟨b, z0, cap, cap', hρ, hjc, hnc, rfl⟩ | ⟨z0, hρ, rfl, rfl, rfl⟩
  · obtain ⟨bk, z1, c1, q1, hz, q2⟩ := hh.ob i _ (.inl hi) hg
    rw [hρ] at q1
    injection q1 with q1
    obtain ⟨rfl, rfl, rfl⟩ : some b = bk ∧ z0 = z1 ∧ cap = c1 := by simpa using q1
    subst hz
    obtain ⟨hs, hm, C, hC, e1, e2, e3, e4⟩ := q2
    have hcell : ∀ (q : Nat) (el : List AV) (k : Nat) (u : AV), ((els.drop j).take n)[q]? = some el → el[k]? = some u → els[j + q]? = some el := fun q el k u hq _ => by
      rw [List.getElem?_take] at hq
      split at hq
      · rw [List.getElem?_drop] at hq; exact hq
      · cases hq
    have hq := CR.rs (w := w) (S := fun b => S b ∨ (false = false ∧ LiveB ρ H (fun i => i ∈ rd) b)) z ((els.drop j).take n) b (j * z) cap' (fun q k => C.getD ((j + q) * z + k) undef) (.inr ⟨rfl, i, _, z, cap, hi, hg, rfl, hρ⟩) (by omega)
      (fun q el k u hq hk => by
        have h1 := hcell q el k u hq hk
        obtain ⟨g1, g2⟩ := e4 (j + q) el k u h1 hk
        have hkz : k < z := Nat.lt_of_lt_of_le (List.getElem?_eq_some_iff.1 hk).1 (e3 _ el h1)
        have hjl : j + q < els.length := (List.getElem?_eq_some_iff.1 h1).1
        have hlt : (j + q) * z + k < C.size := by
          rw [e1]
          calc (j + q) * z + k < (j + q) * z + z := by omega
            _ = (j + q + 1) * z := by rw [Nat.add_mul (j + q), Nat.one_mul]
            _ ≤ cap * z := Nat.mul_le_mul_right _ (by omega)
        refine ⟨?_, g1⟩
        rw [← Nat.add_mul, cell_of_row w b _ C e (0, 0) hC]
        exact getD_some hlt)
      (fun q el k u hq hk => by
        obtain ⟨_, g2⟩ := e4 (j + q) el k u (hcell q el k u hq hk) hk
        rw [if_pos rfl] at g2
        exact g2.mono (fun b hb => .inl hb) (fun _ _ _ h => h))
    rw [hlen] at hq
    exact .cl hq
  · simp; exact .cl (.rs0 z none 0)

inductive HVs (H Hs : Hp) (rd : List Nat) (al : Bool) : List AV → List AV → Prop where
  | nil : HVs H Hs rd al [] []
  | cons {v r : AV} {vs rs : List AV} (h : HV H Hs rd al v r) (hs : HVs H Hs rd al vs rs) : HVs H Hs rd al (v :: vs) (r :: rs)

theorem HVs.at_ {Hs : Hp} {rd : List Nat} {al : Bool} {vs rs : List AV} (h : HVs H Hs rd al vs rs) : vs.length = rs.length ∧ ∀ (j : Nat) (r : AV), rs[j]? = some r → ∃ v, vs[j]? = some v ∧ HV H Hs rd al v r := by
  induction h with
  | nil => exact ⟨rfl, fun j r h => by simp at h⟩
  | cons h _ ih =>
    refine ⟨by simp [ih.1], fun j r hj => ?_⟩
    cases j with
    | zero => simp at hj; subst hj; exact ⟨_, rfl, h⟩
    | succ j => simpa using ih.2 j r (by simpa using hj)

theorem HVs.hands {Hs : Hp} {rd : List Nat} {al : Bool} {vs rs : List AV} (h : HVs H Hs rd al vs rs) : Hands H Hs rd al vs rs := fun w S ρ C hh hv => by
  obtain ⟨e1, e2⟩ := h.at_
  refine ⟨by rw [hv.1, e1], fun j r hj => ?_⟩
  obtain ⟨v, g1, g2⟩ := e2 j r hj
  exact g2 w S ρ _ hh (hv.2 j v g1)

def scopedHs (Hs : Hp) : Bool := Hs.all fun x => scopedOb (keysOf Hs) x.2

theorem scopedHs_spec {Hs : Hp} (h : scopedHs Hs = true) : ∀ i ob, get Hs i = some ob → scopedOb (keysOf Hs) ob = true := by
  have key : ∀ (A : Hp) (i : Nat) (ob : Ob), get A i = some ob → (i, ob) ∈ A := by
    intro A
    induction A with
    | nil => intro i ob h; simp [get] at h
    | cons x A ih =>
      obtain ⟨k, v⟩ := x
      intro i ob h
      simp only [get] at h
      split at h
      · rename_i e; subst e; injection h with h; subst h; simp
      · exact List.mem_cons_of_mem _ (ih i ob h)
  intro i ob hi
  exact List.all_eq_true.1 h (i, ob) (key Hs i ob hi)

/-- A call of a function by its contract: the callee only reads the caller's own objects rd, and hands back nothing of theirs. -/
theorem rs_call {f : Nat} {as : List Arg} {vs vs' : List AV} {rd : List Nat} {r : AV} {H' : Hp} (hg : gOK F g = true) (hv : aargs F as = some vs) (hfc : FC P f vs' [] r H' false) (hh : HVs H [] rd false vs vs') (hnew : ∀ i, i ∈ keysOf H' → get H i = none)
    (h : RS P N ml ((d, r) :: F) (H' ++ H) (fun fps => K ((rd, keysOf H') :: fps))) : RS P N (⟨some d, .call f as, g, pre⟩ :: ml) F H K :=
  rs_cons fun ops o hc => ⟨r, rd, keysOf H', H' ++ H, step_call hc (gOK_spec hg) (enters_call hc rfl hv) hfc hh.hands (fun _ => rfl) (fun i ob h => by simp [get] at h) (fun i ob h => by simp [get] at h) (fun i _ => rfl)
    (fun i hi _ => hnew i (mem_keys.2 hi)) (fun i h => absurd rfl h), h⟩

/-- A call of a function that is handed own objects, or whose result may share memory with its arguments. -/
theorem rs_callm {f : Nat} {as : List Arg} {vs vs' : List AV} {r : AV} {Hs H' : Hp} (hg : gOK F g = true) (hv : aargs F as = some vs) (hfc : FC P f vs' Hs r H' true) (hh : HVs H Hs [] true vs vs') (hsub : ∀ i ob, get Hs i = some ob → get H i = some ob) (hsc : scopedHs Hs = true)
    (hnew : ∀ i, get H' i ≠ none → get Hs i = none → get H i = none) (hdom : ∀ i, get Hs i ≠ none → get H' i ≠ none)
    (h : RS P N ml ((d, r) :: F) (H' ++ H) (fun fps => K (([], keysOf H') :: fps))) : RS P N (⟨some d, .call f as, g, pre⟩ :: ml) F H K :=
  rs_cons fun ops o hc => ⟨r, [], keysOf H', H' ++ H, step_call hc (gOK_spec hg) (enters_call hc rfl hv) hfc hh.hands (fun h => (by cases h)) hsub (scopedHs_spec hsc) (fun i h => (by cases h)) hnew hdom, h⟩

theorem rs_callv {fa : Arg} {as : List Arg} {vs cs vs' : List AV} {f : FuncId} {dst : Option Nat} {r : AV} {Hs H' : Hp} (hg : gOK F g = true) (hf : aarg F fa = some (.fn (.func f) cs)) (hent : entered P f = true) (hv : aargs F as = some vs) (hfc : FC P f vs' Hs r H' true)
    (hh : HVs H Hs [] true (vs ++ cs) vs') (hsub : ∀ i ob, get Hs i = some ob → get H i = some ob) (hsc : scopedHs Hs = true) (hnew : ∀ i, get H' i ≠ none → get Hs i = none → get H i = none) (hdom : ∀ i, get Hs i ≠ none → get H' i ≠ none)
    (h : RS P N ml (putF F dst r) (H' ++ H) (fun fps => K (([], keysOf H') :: fps))) : RS P N (⟨dst, .callv fa as, g, pre⟩ :: ml) F H K :=
  rs_cons fun ops o hc => ⟨r, [], keysOf H', H' ++ H, step_call hc (gOK_spec hg) (enters_callv hc rfl hf hent hv) hfc hh.hands (fun h => (by cases h)) hsub (scopedHs_spec hsc) (fun i h => (by cases h)) hnew hdom, h⟩

end
end Go.Proofs.Ytadjdnhnbkcakaa
