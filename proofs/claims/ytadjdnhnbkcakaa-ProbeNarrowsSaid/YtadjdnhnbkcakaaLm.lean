/-
  Comparisons with nil and of truth values; maps as sets of integers.
-/
import Derived.Test.YtadjdnhnbkcakaaL11
import Derived.MapKept
import Derived.Laws.Cover3
import Derived.Laws.Pointers
import Derived.Laws.Small
namespace Go.Proofs.Ytadjdnhnbkcakaa
open Go.RowKit

section
variable {P : Program} {o : Oper} {F : List (Nat × AV)} {H : List (Nat × Ob)}

theorem run_eqGuard_slice {op : BinOp} {t : TypeId} {x y : Operand} {a b : Option Addr} {n c n' c' : Nat} (w : World) : (eqGuard op t x y (.slice a n c) (.slice b n' c')).run P w = .ok () w := by
  unfold eqGuard
  cases op <;> simp
theorem run_eqGuard_ptr {op : BinOp} {t : TypeId} {x y : Operand} {a b : Option Addr} (w : World) : (eqGuard op t x y (.pointer a) (.pointer b)).run P w = .ok () w := by
  unfold eqGuard
  cases op <;> simp
theorem run_eqGuard_bool {op : BinOp} {t : TypeId} {x y : Operand} {a b : Bool} (w : World) : (eqGuard op t x y (.bool a) (.bool b)).run P w = .ok () w := by
  unfold eqGuard
  cases op <;> simp

theorem run_nil_slice {neg : Bool} {t e : TypeId} {a : Option Addr} {n c : Nat} (h : P.underlying t = some (.slice e)) (w : World) : (binOp (if neg = true then .neq else .eql) t (.slice a n c) (.slice none 0 0)).run P w = .ok (.bool (neg != a.isNone)) w := by
  have h1 : (Op.equal t (.slice a n c) (.slice none 0 0)).run P w = .ok a.isNone w := run_equal_slice_nil w t e a n c h
  cases neg
  · simp only [Bool.false_eq_true, if_false, binOp]
    simp [h1]
  · simp only [if_true, binOp]
    simp [h1]
theorem run_nil_ptr {neg : Bool} {t e : TypeId} {a : Option Addr} (h : P.underlying t = some (.pointer e)) (w : World) : (binOp (if neg = true then .neq else .eql) t (.pointer a) (.pointer none)).run P w = .ok (.bool (neg != a.isNone)) w := by
  have h1 : (Op.equal t (.pointer a) (.pointer none)).run P w = .ok a.isNone w := run_equal_pointer_nil w t a (by rw [h]; simp [Program.pointee, h])
  cases neg
  · simp only [Bool.false_eq_true, if_false, binOp]
    simp [h1]
  · simp only [if_true, binOp]
    simp [h1]
theorem run_bool_eq {neg : Bool} {t : TypeId} {a b : Bool} (h : P.underlying t = some .bool) (w : World) : (binOp (if neg = true then .neq else .eql) t (.bool a) (.bool b)).run P w = .ok (.bool (neg != (a == b))) w := by
  have h1 : (Op.equal t (.bool a) (.bool b)).run P w = .ok (a == b) w := run_equal_bool w t a b h
  cases neg
  · simp only [Bool.false_eq_true, if_false, binOp]
    simp [h1]
  · simp only [if_true, binOp]
    simp [h1]

theorem nilFor_spec {t : TypeId} {y : Operand} {sl : Bool} (h : nilFor P t y = some sl) : (sl = true ∧ (∃ e, P.underlying t = some (.slice e)) ∧ y = .const (.slice none 0 0)) ∨ (sl = false ∧ (∃ e, P.underlying t = some (.pointer e)) ∧ y = .const (.pointer none)) := by
  unfold nilFor at h
  split at h
  · rename_i e hu
    injection h with h; exact .inl ⟨h.symm, ⟨e, hu⟩, rfl⟩
  · rename_i e hu
    injection h with h; exact .inr ⟨h.symm, ⟨e, hu⟩, rfl⟩
  · cases h

theorem opt_isnil {neg sl : Bool} {t yt : TypeId} {x y : Operand} {r : Arg} (hx : carg x = some r) (ho : o.op = .binOp (if neg = true then .neq else .eql) t x y yt) (hy : nilFor P t y = some sl) {K : AV → Prop} {ov : Option AV} (hov : aarg F r = ov)
    (h : nilK sl neg ov K) : ∃ v, K v ∧ OpT P o r.slots F H [] [] v H := by
  rcases nilFor_spec hy with ⟨rfl, ⟨e, hu⟩, rfl⟩ | ⟨rfl, ⟨e, hu⟩, rfl⟩
  · have go : ∀ {v : AV}, aarg F r = some v → ∀ {res : AV}, (∀ (w : World) (S : Nat → Prop) (ρ : Rho) (c : Value), VR w S ρ v c → ∃ a n cap, c = .slice a n cap ∧ CR w S res (.bool (neg != a.isNone))) → OpT P o r.slots F H [] [] res H := fun {v} hv {res} hc =>
      OpT.pure fun S ρ a w hF _ => by
        obtain ⟨ad, n, cap, e1, e2⟩ := hc w S ρ _ (carg_ok hx hF (fun _ h => h) hv)
        have e3 : a.eval (.const (.slice none 0 0)) = .slice none 0 0 := rfl
        exact ⟨_, by simp [execOp, ho, e1, e3, run_eqGuard_slice, run_nil_slice hu w], .cl e2⟩
    cases ov with
    | none => exact False.elim h
    | some v => cases v with
      | nils =>
        refine ⟨_, h, go hov fun w S ρ c hc => ⟨none, 0, 0, hc.nils_inv, ?_⟩⟩
        have e : (neg != (none : Option Addr).isNone) = !neg := by cases neg <;> rfl
        rw [e]; exact .bool _
      | rs z els =>
        cases els with
        | nil =>
          refine ⟨_, h, go hov fun w S ρ c hc => ?_⟩
          rcases hc.rs_inv with ⟨_, a, cap, e⟩ | ⟨b, off, cap, cf, e, _⟩
          · exact ⟨a, 0, cap, e, .anyb _⟩
          · exact ⟨_, _, _, e, .anyb _⟩
        | cons el els =>
          refine ⟨_, h, go hov fun w S ρ c hc => ?_⟩
          rcases hc.rs_inv with ⟨e0, _⟩ | ⟨b, off, cap, cf, e, _⟩
          · cases e0
          · refine ⟨_, _, _, e, ?_⟩
            rw [show (neg != (some (⟨b, off, none⟩ : Addr)).isNone) = neg by cases neg <;> rfl]
            exact .bool _
      | sl i j n =>
        cases n with
        | zero =>
          refine ⟨_, h, go hov fun w S ρ c hc => ?_⟩
          rcases hc.sl_inv with ⟨b, z, cap, cap', _, _, _, e⟩ | ⟨z, _, _, _, e⟩
          · exact ⟨_, _, _, e, .anyb _⟩
          · exact ⟨_, _, _, e, .anyb _⟩
        | succ n =>
          refine ⟨_, h, go hov fun w S ρ c hc => ?_⟩
          rcases hc.sl_inv with ⟨b, z, cap, cap', _, _, _, e⟩ | ⟨z, _, _, e0, e⟩
          · refine ⟨_, _, _, e, ?_⟩
            rw [show (neg != (some (⟨b, j * z, none⟩ : Addr)).isNone) = neg by cases neg <;> rfl]
            exact .bool _
          · cases e0
      | _ => exact False.elim h
  · have go : ∀ {v : AV}, aarg F r = some v → ∀ {res : AV}, (∀ (w : World) (S : Nat → Prop) (ρ : Rho) (c : Value), VR w S ρ v c → ∃ a, c = .pointer a ∧ CR w S res (.bool (neg != a.isNone))) → OpT P o r.slots F H [] [] res H := fun {v} hv {res} hc =>
      OpT.pure fun S ρ a w hF _ => by
        obtain ⟨ad, e1, e2⟩ := hc w S ρ _ (carg_ok hx hF (fun _ h => h) hv)
        have e3 : a.eval (.const (.pointer none)) = .pointer none := rfl
        exact ⟨_, by simp [execOp, ho, e1, e3, run_eqGuard_ptr, run_nil_ptr hu w], .cl e2⟩
    have e0 : (neg != (none : Option Addr).isNone) = !neg := by cases neg <;> rfl
    have e1 : ∀ a : Addr, (neg != (some a).isNone) = neg := fun a => by cases neg <;> rfl
    cases ov with
    | none => exact False.elim h
    | some v => cases v with
      | nilp =>
        refine ⟨_, h, go hov fun w S ρ c hc => ⟨none, hc.nilp_inv, ?_⟩⟩
        rw [e0]; exact .bool _
      | ptr i j k =>
        refine ⟨_, h, go hov fun w S ρ c hc => ?_⟩
        obtain ⟨b, z, cap, _, e⟩ := hc.ptr_inv
        refine ⟨_, e, ?_⟩
        rw [e1]; exact .bool _
      | rp cs =>
        refine ⟨_, h, go hov fun w S ρ c hc => ?_⟩
        obtain ⟨b, off, cf, e, _⟩ := hc.rp_inv
        refine ⟨_, e, ?_⟩
        rw [e1]; exact .bool _
      | _ => exact False.elim h

theorem opt_beq {neg : Bool} {t yt : TypeId} {x y : Operand} {rx ry : Arg} (hx : carg x = some rx) (hy : carg y = some ry) (ho : o.op = .binOp (if neg = true then .neq else .eql) t x y yt) (ht : P.underlying t = some .bool) {a b : Bool}
    (h1 : aarg F rx = some (.bool a)) (h2 : aarg F ry = some (.bool b)) : OpT P o (rx.slots ++ ry.slots) F H [] [] (.bool (neg != (a == b))) H :=
  OpT.pure fun S ρ ac w hF _ => by
    have e1 := (carg_ok hx hF (fun _ h => by simp [h]) h1).bool_inv
    have e2 := (carg_ok hy hF (fun _ h => by simp [h]) h2).bool_inv
    exact ⟨_, by simp [execOp, ho, e1, e2, run_eqGuard_bool, run_bool_eq ht w], .cl (.bool _)⟩

theorem VR.mp_inv {w : World} {S : Nat → Prop} {ρ : Rho} {c : Value} {i : Nat} (h : VR w S ρ (.mp i) c) : ∃ b z cap, ρ i = some (some b, z, cap) ∧ c = .map (some b) := by
  cases h with
  | cl h => cases h
  | mp _ b z cap h => exact ⟨b, z, cap, h, rfl⟩

theorem mset_inv {I : Nat → Prop} {w : World} {S : Nat → Prop} {ρ : Rho} (hH : HRi I w S ρ H) {i : Nat} {ks : List Int} (hI : I i) (hg : get H i = some (.mset ks)) {b z cap : Nat} (hρ : ρ i = some (some b, z, cap)) :
    ¬ S b ∧ ∃ es clock, w.heap[b]? = some (.map es clock) ∧ es.toList.map (fun x => x.key) = ks.map (Value.int .i64) := by
  obtain ⟨bk, z1, c1, q1, b1, es, clk, e1, q3, q4, q5⟩ := hH.ob i _ hI hg
  rw [hρ] at q1
  injection q1 with q1
  obtain ⟨rfl, rfl, rfl⟩ : some b = bk ∧ z = z1 ∧ cap = c1 := by simpa using q1
  injection e1 with e1; subst e1
  exact ⟨q3, es, clk, q4, q5⟩

theorem opt_lenm {t k e : TypeId} {x : Operand} {r : Arg} (ht : P.underlying t = some (.map k e)) (hx : carg x = some r) (ho : o.op = .call { callee := .builtin .len, args := #[x], argTypes := #[t] }) {i : Nat} {ks : List Int} (hv : aarg F r = some (.mp i))
    (hi : get H i = some (.mset ks)) : OpT P o r.slots F H [i] [] (.int .i64 ks.length) H :=
  OpT.pure fun S ρ ac w hF hH => by
    obtain ⟨b, z, cap, h1, e1⟩ := (carg_ok hx hF (fun _ h => h) hv).mp_inv
    obtain ⟨_, es, clk, h2, h3⟩ := mset_inv hH (by simp) hi h1
    have hlen : es.size = ks.length := by simpa using congrArg List.length h3
    refine ⟨.int .i64 ks.length, ?_, .cl (.int _ _)⟩
    simp [execOp, ho, e1, resolve, invoke, builtin, Builtin.len_, run_underlying ht, MapKept.run_getObj_map h2, goInt, hlen]

theorem opt_mkmap {t : TypeId} {d : Nat} (ho : o.op = .makeMap t none) (hd : get H d = none) (ts : List Nat) : OpT P o ts F H [] [d] (.mp d) ((d, .mset []) :: H) := by
  intro S ρ a w Q K hF hS hH hnew hK
  have hρd : ρ d = none := hnew d (by simp) hd
  let ρ' : Rho := fun i => if i = d then some (some w.heap.size, 0, 0) else ρ i
  have hρ'd : ρ' d = some (some w.heap.size, 0, 0) := by simp [ρ']
  have hρ'o : ∀ i, i ≠ d → ρ' i = ρ i := fun i hi => by simp [ρ', hi]
  refine .inl ?_
  unfold Oper.wp
  have hr : (execOp a.eval o).run P w = .ok (.value (.map (some w.heap.size))) (w.alloc (.map #[] 0)) := by
    simp [execOp, ho, run_makeMap]
  rw [hr]
  refine hK _ _ S ρ' (.mp d w.heap.size 0 0 hρ'd) ⟨fun i ob hi hg => ?_, fun i j oi oj b z1 z2 c1 c2 hi hj hne => ?_⟩ ⟨⟨rfl, rfl, rfl, by simp, fun k hk _ => Below.heap_alloc w _ k hk⟩, fun _ h => h, fun _ h => .inl h, fun b hb => ?_, fun b hb => ?_, fun i hi => ?_⟩
  · have hid : i = d := by simpa using hi
    subst hid
    simp [get] at hg
    subst hg
    refine ⟨some w.heap.size, 0, 0, hρ'd, w.heap.size, #[], 0, rfl, fun hs => ?_, heap_alloc_new w _, rfl⟩
    have := hS _ hs; omega
  · have e1 : i = d := by simpa using hi
    have e2 : j = d := by simpa using hj
    exact absurd (e1.trans e2.symm) hne
  · have := hS b hb; simp; omega
  · obtain ⟨i, ob, z', cap', hi, _, _, hr'⟩ := hb
    have hid : i = d := by simpa using hi
    subst hid
    rw [hρ'd] at hr'
    simp at hr'
    exact .inr (by omega)
  · exact hρ'o i (fun e => hi ⟨by simp [e], by rw [e]; exact hd⟩)

theorem isMapI_spec {t : TypeId} (h : isMapI P t = true) : ∃ k e, P.underlying t = some (.map k e) ∧ P.underlying k = some (.int .i64) := by
  unfold isMapI at h
  split at h
  · rename_i k e hu
    split at h
    · rename_i hk; exact ⟨k, e, hu, hk⟩
    · cases h
  · cases h

theorem run_mapadd {t k e : TypeId} (hu : P.underlying t = some (.map k e)) (hk : P.underlying k = some (.int .i64)) {w : World} {b clock : Nat} {es : Array MapEntry} {ks : List Int} (hb : w.heap[b]? = some (.map es clock))
    (hks : es.toList.map (fun x => x.key) = ks.map (Value.int .i64)) (n : Int) (v : Value) : ∃ es' clock', (Instr.mapUpdate t (.map (some b)) (.int .i64 n) v).run P w = .ok () { w with heap := w.heap.setIfInBounds b (.map es' clock') } ∧
      es'.toList.map (fun x => x.key) = (addK ks n).map (Value.int .i64) := by
  have hkey : MapKept.IsKey (.int .i64) (.int .i64 n) := rfl
  have hall : ∀ x ∈ es.toList, MapKept.IsKey (.int .i64) x.key := fun x hx => by
    have : x.key ∈ es.toList.map (fun x => x.key) := List.mem_map.2 ⟨x, hx, rfl⟩
    rw [hks] at this
    obtain ⟨m, _, hm⟩ := List.mem_map.1 this
    rw [← hm]; rfl
  have hmem : ∀ x, x ∈ es.toList → ∃ m ∈ ks, x.key = .int .i64 m := fun x hx => by
    have : x.key ∈ es.toList.map (fun x => x.key) := List.mem_map.2 ⟨x, hx, rfl⟩
    rw [hks] at this
    obtain ⟨m, h1, hm⟩ := List.mem_map.1 this
    exact ⟨m, h1, hm.symm⟩
  rcases MapKept.findNow_spec hkey es.toList 0 hall with ⟨h1, h2⟩ | ⟨j, e', h1, h2, h3⟩
  · refine ⟨es.push { key := .int .i64 n, val := v, born := clock }, clock + 1, ?_, ?_⟩
    · simp only [Instr.mapUpdate, Sem.run_bind, run_underlying hu, Result.andThen_ok, MapKept.run_getObj_map hb, MapKept.run_checkKey hk hkey, MapKept.run_findKey hk h1, MapKept.run_setObj_map _ hb]
    · have hn : ¬ ks.contains n = true := fun hc => by
        have hc' : n ∈ ks := by simpa using hc
        have : Value.int .i64 n ∈ es.toList.map (fun x => x.key) := by rw [hks]; exact List.mem_map.2 ⟨n, hc', rfl⟩
        obtain ⟨x, hx, hxe⟩ := List.mem_map.1 this
        exact h2 x hx hxe
      unfold addK
      rw [if_neg hn, Array.toList_push, List.map_append, List.map_append, hks]
      rfl
  · have hj : es[j]? = some e' := by simpa using h2
    refine ⟨es.modify j fun x => { x with key := .int .i64 n, val := v }, clock, ?_, ?_⟩
    · have hsb : Instr.sameBits 10000 (.int .i64 n) (.int .i64 n) = true := by simp [Instr.sameBits]
      simp only [Instr.mapUpdate, Sem.run_bind, run_underlying hu, Result.andThen_ok, MapKept.run_getObj_map hb, MapKept.run_checkKey hk hkey, MapKept.run_findKey hk h1, Nat.zero_add]
      simp [hj, h3, Instr.keyThatStays, hsb, MapKept.run_setObj_map _ hb]
    · have hn : ks.contains n = true := by
        obtain ⟨m, h4, h5⟩ := hmem e' (List.mem_of_getElem? h2)
        rw [h3] at h5
        injection h5 with _ h5; subst h5
        simpa using h4
      unfold addK
      rw [if_pos hn, ← hks]
      apply List.ext_getElem?
      intro q
      simp only [List.getElem?_map, Array.getElem?_toList, Array.getElem?_modify]
      split
      · rename_i e; subst e; rw [hj]; simp [h3]
      · rfl

theorem opt_mapadd {t : TypeId} {m k x : Operand} {rm rk rx : Arg} (ht : isMapI P t = true) (hm : carg m = some rm) (hk : carg k = some rk) (hx : carg x = some rx) (ho : o.op = .mapUpdate t m k x) {i : Nat} {n : Int} {u : AV} {ks : List Int}
    (h1 : aarg F rm = some (.mp i)) (h2 : aarg F rk = some (.int .i64 n)) (h3 : aarg F rx = some u) (hi : get H i = some (.mset ks)) : OpT P o (rm.slots ++ rk.slots ++ rx.slots) F H [] [i] .und ((i, .mset (addK ks n)) :: H) := by
  obtain ⟨kt, et, hu, hkt⟩ := isMapI_spec ht
  intro S ρ a w Q K hF hS hH _ hK
  obtain ⟨b, z, cap, hρ, e1⟩ := (carg_ok hm hF (fun _ h => by simp [h]) h1).mp_inv
  have e2 := (carg_ok hk hF (fun _ h => by simp [h]) h2).int_inv
  obtain ⟨hs, es, clk, hb, hks⟩ := mset_inv hH (by simp) hi hρ
  obtain ⟨es', clk', hrun, hks'⟩ := run_mapadd (P := P) hu hkt hb hks n (a.eval x)
  obtain ⟨hset, hoth⟩ := MapKept.heap_set (o' := .map es' clk') hb
  refine .inl ?_
  unfold Oper.wp
  have hr : (execOp a.eval o).run P w = .ok .skip { w with heap := w.heap.setIfInBounds b (.map es' clk') } := by
    simp [execOp, ho, e1, e2, hrun]
  rw [hr]
  have hsz : ({ w with heap := w.heap.setIfInBounds b (.map es' clk') } : World).heap.size = w.heap.size := by simp
  have hcell : ∀ (ad : Addr) (c : Value), S ad.block → w.cell? ad = some c → ({ w with heap := w.heap.setIfInBounds b (.map es' clk') } : World).cell? ad = some c := fun ad c hsb hc => by
    rw [World.cell?_of_block (w := w) (hoth ad.block (fun e => by rw [e] at hsb; exact hs hsb))]; exact hc
  have hget : ∀ q, q ≠ i → get ((i, Ob.mset (addK ks n)) :: H) q = get H q := fun q hq => by simp [get, Ne.symm hq]
  have hgeti : get ((i, Ob.mset (addK ks n)) :: H) i = some (.mset (addK ks n)) := by simp [get]
  have live_i : LiveB ρ H (fun k => k ∈ [] ∨ k ∈ [i]) b := ⟨i, _, z, cap, by simp, hi, rfl, hρ⟩
  refine hK undef _ S ρ (.cl .und) ⟨fun q ob hq hg => ?_, fun q l oq ol b' z' z'' c' c'' hq hl hne => ?_⟩
    ⟨⟨rfl, rfl, rfl, by rw [hsz]; exact Nat.le_refl _, fun q hq hn => hoth q (fun e => by subst e; exact hn live_i)⟩, fun _ h => h, fun _ h => .inl h, fun b' hb' => by rw [hsz]; exact hS b' hb', fun b' hb' => ?_, fun _ _ => rfl⟩
  · have hqi : q = i := by simpa using hq
    subst hqi
    rw [hgeti] at hg
    injection hg with hg; subst hg
    exact ⟨some b, z, cap, hρ, b, es', clk', rfl, hs, hset, hks'⟩
  · have q1 : q = i := by simpa using hq
    have q2 : l = i := by simpa using hl
    exact absurd (q1.trans q2.symm) hne
  · obtain ⟨q, ob, z', cap', hq, hg, hl, hrq⟩ := hb'
    have hqi : q = i := by simpa using hq
    subst hqi
    exact .inl ⟨q, _, z', cap', hq, hi, rfl, hrq⟩

end
end Go.Proofs.Ytadjdnhnbkcakaa
