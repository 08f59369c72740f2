/-
  More rules as used: each binary operator, elements of mapped lists, ends of functions and of blocks.
-/
import Derived.Test.YtadjdnhnbkcakaaL20
namespace Go.Proofs.Ytadjdnhnbkcakaa
open Go.RowKit

section
variable {P : Program} {N : Nat} {Z : List Nat} {Q : Post} {F : Fr} {H : Hp} {ml : List MOper} {K : List Fp → Fr → Hp → Prop} {d : Nat} {g : Option (Nat × Bool)} {pre : List Nat}

theorem in_hit {id : Nat} (h : Q .normal F H) : InBlock id Q (.exit id) F H := by
  simp only [InBlock, if_true]; exact h
theorem in_miss {id i : Nat} (hi : i ≠ id) (h : Q (.exit i) F H) : InBlock id Q (.exit i) F H := by
  simp only [InBlock, if_neg hi]; exact h
theorem in_n {id : Nat} (h : Q .normal F H) : InBlock id Q .normal F H := h
theorem in_r {id : Nat} (h : Q .ret F H) : InBlock id Q .ret F H := h
theorem th_n {next : Fr → Hp → Prop} (h : next F H) : Then next Q .normal F H := h
theorem th_r {next : Fr → Hp → Prop} (h : Q .ret F H) : Then next Q .ret F H := h
theorem th_e {next : Fr → Hp → Prop} {i : Nat} (h : Q (.exit i) F H) : Then next Q (.exit i) F H := h

/-- The end of a function whose result names nothing. -/
theorem ret_pure {rs : List ResultVar} {r : AV} {vs : List AV} {al : Bool} (h : resVs P F H rs = some vs) (hr : resOne vs = r) (hs : scopedV [] r = true) (hn : al = true ∨ noRO r = true) : RetQ P [] rs r [] al .ret F H :=
  ⟨.inr rfl, vs, h, by rw [hr]; exact rc_same hs hn, keptH_nil, fun i hi => by cases hi⟩

section bin
variable {x y : Arg} {k : IntKind} {a b c : Int}
theorem rs_lss (hg : gOK F g = true) (hx : aarg F x = some (.int k a)) (hy : aarg F y = some (.int k b)) (h : RS P N ml ((d, .bool (decide (a < b))) :: F) H (fun fps => K (([], []) :: fps))) : RS P N (⟨some d, .bin .lss x y, g, pre⟩ :: ml) F H K := rs_bin hg hx hy ⟨rfl, h⟩
theorem rs_leq (hg : gOK F g = true) (hx : aarg F x = some (.int k a)) (hy : aarg F y = some (.int k b)) (h : RS P N ml ((d, .bool (decide (a ≤ b))) :: F) H (fun fps => K (([], []) :: fps))) : RS P N (⟨some d, .bin .leq x y, g, pre⟩ :: ml) F H K := rs_bin hg hx hy ⟨rfl, h⟩
theorem rs_gtr (hg : gOK F g = true) (hx : aarg F x = some (.int k a)) (hy : aarg F y = some (.int k b)) (h : RS P N ml ((d, .bool (decide (a > b))) :: F) H (fun fps => K (([], []) :: fps))) : RS P N (⟨some d, .bin .gtr x y, g, pre⟩ :: ml) F H K := rs_bin hg hx hy ⟨rfl, h⟩
theorem rs_geq (hg : gOK F g = true) (hx : aarg F x = some (.int k a)) (hy : aarg F y = some (.int k b)) (h : RS P N ml ((d, .bool (decide (a ≥ b))) :: F) H (fun fps => K (([], []) :: fps))) : RS P N (⟨some d, .bin .geq x y, g, pre⟩ :: ml) F H K := rs_bin hg hx hy ⟨rfl, h⟩
theorem rs_eql (hg : gOK F g = true) (hx : aarg F x = some (.int k a)) (hy : aarg F y = some (.int k b)) (h : RS P N ml ((d, .bool (decide (a = b))) :: F) H (fun fps => K (([], []) :: fps))) : RS P N (⟨some d, .bin .eql x y, g, pre⟩ :: ml) F H K :=
  rs_bin hg hx hy ⟨rfl, by rw [show (a == b) = decide (a = b) from rfl]; exact h⟩
theorem rs_neq (hg : gOK F g = true) (hx : aarg F x = some (.int k a)) (hy : aarg F y = some (.int k b)) (h : RS P N ml ((d, .bool (decide (a ≠ b))) :: F) H (fun fps => K (([], []) :: fps))) : RS P N (⟨some d, .bin .neq x y, g, pre⟩ :: ml) F H K :=
  rs_bin hg hx hy ⟨rfl, by
    rw [show (a != b) = decide (a ≠ b) by by_cases e : a = b <;> simp [e]]; exact h⟩
theorem rs_and (hg : gOK F g = true) (hx : aarg F x = some (.int k a)) (hy : aarg F y = some (.int k b)) (hc : bits .and k a b = c) (h : RS P N ml ((d, .int k c) :: F) H (fun fps => K (([], []) :: fps))) : RS P N (⟨some d, .bin .and x y, g, pre⟩ :: ml) F H K := rs_bin hg hx hy ⟨rfl, by rw [hc]; exact h⟩
theorem rs_or (hg : gOK F g = true) (hx : aarg F x = some (.int k a)) (hy : aarg F y = some (.int k b)) (hc : bits .or k a b = c) (h : RS P N ml ((d, .int k c) :: F) H (fun fps => K (([], []) :: fps))) : RS P N (⟨some d, .bin .or x y, g, pre⟩ :: ml) F H K := rs_bin hg hx hy ⟨rfl, by rw [hc]; exact h⟩
theorem rs_andNot (hg : gOK F g = true) (hx : aarg F x = some (.int k a)) (hy : aarg F y = some (.int k b)) (hc : bits .andNot k a b = c) (h : RS P N ml ((d, .int k c) :: F) H (fun fps => K (([], []) :: fps))) : RS P N (⟨some d, .bin .andNot x y, g, pre⟩ :: ml) F H K := rs_bin hg hx hy ⟨rfl, by rw [hc]; exact h⟩
theorem rs_addw (hg : gOK F g = true) (hx : aarg F x = some (.int k a)) (hy : aarg F y = some (.int k b)) (hc : k.wrap (a + b) = c) (h : RS P N ml ((d, .int k c) :: F) H (fun fps => K (([], []) :: fps))) : RS P N (⟨some d, .bin .add x y, g, pre⟩ :: ml) F H K := rs_bin hg hx hy ⟨rfl, by rw [hc]; exact h⟩
theorem rs_subw (hg : gOK F g = true) (hx : aarg F x = some (.int k a)) (hy : aarg F y = some (.int k b)) (hc : k.wrap (a - b) = c) (h : RS P N ml ((d, .int k c) :: F) H (fun fps => K (([], []) :: fps))) : RS P N (⟨some d, .bin .sub x y, g, pre⟩ :: ml) F H K := rs_bin hg hx hy ⟨rfl, by rw [hc]; exact h⟩
theorem rs_mulw (hg : gOK F g = true) (hx : aarg F x = some (.int k a)) (hy : aarg F y = some (.int k b)) (hc : k.wrap (a * b) = c) (h : RS P N ml ((d, .int k c) :: F) H (fun fps => K (([], []) :: fps))) : RS P N (⟨some d, .bin .mul x y, g, pre⟩ :: ml) F H K := rs_bin hg hx hy ⟨rfl, by rw [hc]; exact h⟩
theorem rs_quow (hg : gOK F g = true) (hx : aarg F x = some (.int k a)) (hy : aarg F y = some (.int k b)) (h0 : b ≠ 0) (hc : k.wrap (a.tdiv b) = c) (h : RS P N ml ((d, .int k c) :: F) H (fun fps => K (([], []) :: fps))) : RS P N (⟨some d, .bin .quo x y, g, pre⟩ :: ml) F H K := rs_bin hg hx hy ⟨rfl, h0, by rw [hc]; exact h⟩
theorem rs_rem (hg : gOK F g = true) (hx : aarg F x = some (.int k a)) (hy : aarg F y = some (.int k b)) (h0 : b ≠ 0) (hc : a.tmod b = c) (h : RS P N ml ((d, .int k c) :: F) H (fun fps => K (([], []) :: fps))) : RS P N (⟨some d, .bin .rem x y, g, pre⟩ :: ml) F H K := rs_bin hg hx hy ⟨rfl, h0, by rw [hc]; exact h⟩
theorem rs_shl {k' : IntKind} (hg : gOK F g = true) (hx : aarg F x = some (.int k a)) (hy : aarg F y = some (.int k' b)) (h0 : 0 ≤ b) (hc : k.wrap (a * 2 ^ min b.toNat k.bits) = c) (h : RS P N ml ((d, .int k c) :: F) H (fun fps => K (([], []) :: fps))) : RS P N (⟨some d, .bin .shl x y, g, pre⟩ :: ml) F H K := rs_bin hg hx hy ⟨h0, by rw [hc]; exact h⟩
theorem rs_shr {k' : IntKind} (hg : gOK F g = true) (hx : aarg F x = some (.int k a)) (hy : aarg F y = some (.int k' b)) (h0 : 0 ≤ b) (hc : a.fdiv (2 ^ min b.toNat k.bits) = c) (h : RS P N ml ((d, .int k c) :: F) H (fun fps => K (([], []) :: fps))) : RS P N (⟨some d, .bin .shr x y, g, pre⟩ :: ml) F H K := rs_bin hg hx hy ⟨h0, by rw [hc]; exact h⟩
end bin

section lists
variable {α : Type} {f : α → List AV} {xs : List α} {z e : Nat} {x i : Arg} {t : Nat} {k : IntKind} {fl : Bool}
theorem rs_len_m (hg : gOK F g = true) (hx : aarg F x = some (.rs z (xs.map f))) (h : RS P N ml ((d, .int .i64 xs.length) :: F) H (fun fps => K (([], []) :: fps))) : RS P N (⟨some d, .len x, g, pre⟩ :: ml) F H K := rs_len_r hg hx (by simp) h
/-- An element of read-only data. -/
theorem rs_ix_m (hg : gOK F g = true) (hx : aarg F x = some (.rs z (xs.map f))) (hi : aarg F i = some (.int k (t : Int))) (ht : t < xs.length)
    (h : RS P N ml ((d, .rp (f xs[t])) :: F) H (fun fps => K (([], []) :: fps))) : RS P N (⟨some d, .ixsl z x i, g, pre⟩ :: ml) F H K := rs_ix_r hg hx hi (by omega) (by simpa using ht) (by simp [ht]) h
/-- The same, by an integer. -/
theorem rs_ix_mi {t : Int} (hg : gOK F g = true) (hx : aarg F x = some (.rs z (xs.map f))) (hi : aarg F i = some (.int k t)) (h0 : 0 ≤ t) (ht : t.toNat < xs.length)
    (h : RS P N ml ((d, .rp (f xs[t.toNat])) :: F) H (fun fps => K (([], []) :: fps))) : RS P N (⟨some d, .ixsl z x i, g, pre⟩ :: ml) F H K := rs_ix_r hg hx hi h0 (by simp; omega) (by simp [ht]) h
/-- An element of an own slice. -/
theorem rs_ix_sm {a n : Nat} (hg : gOK F g = true) (hx : aarg F x = some (.sl a 0 n)) (hi : aarg F i = some (.int k (t : Int))) (ha : get H a = some (.cells e z (xs.map f) fl)) (ht : t < n)
    (h : RS P N ml ((d, .ptr a t 0) :: F) H (fun fps => K (([a], []) :: fps))) : RS P N (⟨some d, .ixsl z x i, g, pre⟩ :: ml) F H K := rs_ix_s hg hx hi ha (by omega) (by omega) (by simpa using h)
theorem rs_ld_m {a n o : Nat} {v : AV} (hg : gOK F g = true) (hx : aarg F x = some (.ptr a t o)) (ha : get H a = some (.cells e z (xs.map f) fl)) (ht : t < xs.length) (hv : (f xs[t])[o]? = some v)
    (h : RS P N ml ((d, v) :: F) H (fun fps => K (([a], []) :: fps))) : RS P N (⟨some d, .ld false n x, g, pre⟩ :: ml) F H K := rs_ld_p hg hx ha (el := f xs[t]) (by simp [ht]) hv h
theorem rs_ld_ma {a n o : Nat} {cs : List AV} (hg : gOK F g = true) (hx : aarg F x = some (.ptr a t o)) (ha : get H a = some (.cells e z (xs.map f) fl)) (ht : t < xs.length) (hn : o + n ≤ (f xs[t]).length) (hc : ((f xs[t]).drop o).take n = cs)
    (h : RS P N ml ((d, .agg cs) :: F) H (fun fps => K (([a], []) :: fps))) : RS P N (⟨some d, .ld true n x, g, pre⟩ :: ml) F H K := rs_ld_pa hg hx ha (el := f xs[t]) (by simp [ht]) hn hc h
theorem rs_st_m {a n o : Nat} {y : Arg} {u : AV} {cs : List AV} {v : α} {fl' : Bool} (hg : gOK F g = true) (hx : aarg F x = some (.ptr a t o)) (hy : aarg F y = some u) (ha : get H a = some (.cells e z (xs.map f) fl)) (ht : t < xs.length) (hc : acells u = some cs) (hn : cs.length = n)
    (ho : o + n ≤ (f xs[t]).length) (he : setAt (f xs[t]) o cs = f v) (hfl : (fl && closedL cs) = fl') (h : RS P N ml F ((a, .cells e z ((xs.set t v).map f) fl') :: H) (fun fps => K (([], [a]) :: fps))) : RS P N (⟨none, .st n x y, g, pre⟩ :: ml) F H K :=
  rs_st hg hx hy ha hc (el := f xs[t]) (by simp [ht]) hn ho (by rw [he, List.map_set]) hfl h
/-- One more element. -/
theorem rs_app_m {by_ a n : Nat} {zero : List AV} {s : Arg} {v : AV} {rd : List Nat} {y : α} {fl' : Bool} (hg : gOK F g = true) (hs : aarg F s = some (.sl a 0 n)) (hx : aarg F x = some v) (ha : get H a = some (.cells e z (xs.map f) fl)) (hn : xs.length = n) (hsrc : srcOf H z v = some (rd, [f y]))
    (hz : zero.length = z) (hd : get H d = none) (hird : a ∉ rd) (hl : (f y).length = z) (hb : (n + 1) * by_ ≤ 140737488355328) (h63 : n + 1 ≤ 9223372036854775807) (hfl : (fl && closedL (f y)) = fl')
    (h : RS P N ml ((d, .sl d 0 (n + 1)) :: F) ((d, .cells e z ((xs ++ [y]).map f) fl') :: (a, .dead) :: H) (fun fps => K ((rd, [a, d]) :: fps))) : RS P N (⟨some d, .app e z by_ zero s x, g, pre⟩ :: ml) F H K :=
  rs_app (fl' := fl') hg hs hx ha hsrc hz hd (by simpa using hn) hird (by simpa using hl) rfl hb h63 (by rw [← hfl]; simp [flatE]) (by simpa using h)
/-- A copy of a whole list behind nothing. -/
theorem rs_app_nm {by_ n : Nat} {zero : List AV} {s : Arg} {v : AV} {rd : List Nat} (hg : gOK F g = true) (hs : aarg F s = some .nils) (hx : aarg F x = some v) (hsrc : srcOf H z v = some (rd, xs.map f)) (hz : zero.length = z) (hd : get H d = none)
    (hl : ∀ y, (f y).length = z) (hn : xs.length = n) (hb : n * by_ ≤ 140737488355328) (h63 : n ≤ 9223372036854775807) (hfl : ∀ y, closedL (f y) = true)
    (h : RS P N ml ((d, .sl d 0 n) :: F) ((d, .cells e z (xs.map f) true) :: H) (fun fps => K ((rd, [d]) :: fps))) : RS P N (⟨some d, .app e z by_ zero s x, g, pre⟩ :: ml) F H K :=
  rs_app_n hg hs hx hsrc hz hd (by simp [hl]) (by simpa using hn) hb h63 (by
    clear h hsrc hn
    induction xs with
    | nil => rfl
    | cons y ys ih => simp [flatE, hfl] at ih ⊢; exact ih) h
end lists

theorem rs_cmp {op : BinOp} {x y : Arg} {k : IntKind} {a b : Int} {p : Prop} (hg : gOK F g = true) (hx : aarg F x = some (.int k a)) (hy : aarg F y = some (.int k b)) (hop : cmpV op a b = some p)
    (h1 : p → RS P N ml ((d, .bool true) :: F) H (fun fps => K (([], []) :: fps))) (h2 : ¬ p → RS P N ml ((d, .bool false) :: F) H (fun fps => K (([], []) :: fps))) : RS P N (⟨some d, .bin op x y, g, pre⟩ :: ml) F H K := by
  by_cases h : p
  · exact rs_cmp_t hg hx hy hop h (h1 h)
  · exact rs_cmp_f hg hx hy hop h (h2 h)

theorem fc_run {f : FuncId} {fn : Func} {mc : MC} {nt : Nat} {rs : List ResultVar} {args : List AV} {H' : Hp} {r : AV} {al : Bool} (hf : P.funcs[f]? = some fn) (hn : fn.ntmps = nt) (hr : fn.results.toList = rs)
    (hm : (match fn.body with | some c => compC P nt c | none => none) = some mc) (hl : args.length ≤ nt) (h : AW P nt (keysOf H) mc (RetQ P (keysOf H) rs r H' al) (params args 0) H) : FC P f args H r H' al := by
  subst hn hr
  split at hm
  · rename_i c hb
    exact fc_of_aw hf hb hm hl h
  · cases hm

/-- Numbers in a list. -/
abbrev ci (n : Int) : List AV := [.int .i64 n]

end
end Go.Proofs.Ytadjdnhnbkcakaa
