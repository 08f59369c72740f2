/-
  Parts of the proof: Ln Ls L12 L13 L14 L15 L16 L17 L18 L19.
-/
import Derived.Test.YthmbjgnjfjjibaaGreatDoorK0
import Derived.ChangeKeysEq
import Derived.Laws.StructEq
import Derived.WideLaws
import Derived.Laws.IdiomStrings
import Derived.Laws.BytesArg
import Derived.Laws.Concat
import Derived.Laws.Strings3
import Derived.RangeFuncNested
import Derived.RangeFuncCalls
import Derived.RangeFuncLeaves
import Derived.TacticsIn
import Derived.OrdersIn
import Derived.Scope
set_option linter.unusedVariables false
set_option linter.unusedSimpArgs false
namespace Go.Proofs.YthmbjgnjfjjibaaGreatDoor
open Go.RowKit
set_option maxRecDepth 100000
variable {ks:List (List Int)} {nk:Nat}
variable {rk rm:Arg}
variable {kvs:List (Int×AV)} {S:Nat->Prop} {ρ:Rho} {w:World}
variable {rx ry:Arg} {as bs:List AV}
variable {C:Array Value} {la lb:List Int}
variable {neg:Bool} {yt:TypeId}
variable {captured first:Array Operand}
variable {r:Arg}
section
variable {P:Program} {o:Oper} {F:List (Nat×AV)} {H:List (Nat×Ob)}
theorem notIf_spec {t:TypeId} (h:notIf P t=true):∃ d,P.underlying t=some d/\∀ ms,d ≠ .interface ms:=by
 unfold notIf at h
 split at h
 ·cases h
 ·rename_i d hd hu; exact ⟨d,hu,fun ms e=>hd ms e⟩
 ·cases h
theorem isIf_spec {t:TypeId} (h:isIf P t=true):∃ ms,P.underlying t=some (.interface ms):=by
 unfold isIf at h
 split at h
 ·exact ⟨_,by assumption⟩
 ·cases h
theorem opt_mkif {t:TypeId} {x:Operand} (ht:notIf P t=true) (hx:Qu x=some r) (ho:o.op = .makeInterface t x) {v:AV} (hv:Qe F r=some v) (hc:QB v=true):OpT P o r.slots F H [] [] (.ifc t v) H :=
 OpT.pure fun S ρ a w hF _=>by
  have e1:=(Qd hx hF (fun _ h=>h) hv).closed hc
  obtain ⟨d,hu,hd⟩:=notIf_spec ht
  refine ⟨.iface t (a.eval x),?_,.cl (.ifc t v _ e1)⟩
  have:(Instr.makeInterface t (a.eval x)).run P w = .ok (.iface t (a.eval x)) w:=by
   unfold Instr.makeInterface
   simp only [Sem.run_bind,run_underlying hu,Result.andThen_ok]
   cases d <;> first | rfl | (exact absurd rfl (hd _))
  simp [execOp,ho,this]
theorem opt_mkbm {name:String} {x:Operand} (hf:first.toList=[x]) (hcp:captured.toList=[]) (hx:Qu x=some r) (ho:o.op = .makeFunc (.method name) first captured) {v:AV} (hv:Qe F r=some v) (hc:QB v=true):OpT P o r.slots F H [] [] (.bm name v) H :=
 OpT.pure fun S ρ a w hF _=>by
  have e1:=(Qd hx hF (fun _ h=>h) hv).closed hc
  have h1:first = #[x]:=by rw [← Array.toArray_toList (xs:=first),hf]
  have h2:captured = #[]:=by rw [← Array.toArray_toList (xs:=captured),hcp]
  refine ⟨.func (.method name) #[a.eval x] #[],?_,.cl (.bm name v _ e1)⟩
  simp [execOp,ho,h1,h2,Instr.makeFunc]
theorem Jk {op:BinOp} {t:TypeId} {x:Operand} {c:Value} (hc:c = .nilIface\/∃ u v,c = .iface u v) (w:World):(eqGuard op t x (.const .nilIface) c .nilIface).run P w = .ok () w:=by
 rcases hc with rfl | ⟨u,v,rfl⟩ <;> unfold eqGuard <;> cases op <;> simp
theorem opt_ifnil {t:TypeId} {x:Operand} (ht:isIf P t=true) (hx:Qu x=some r) (ho:o.op = .binOp (if neg=true then .neq else .eql) t x (.const .nilIface) yt) {v:AV} (hv:Qe F r=some v) {b:Bool}
  (hb:(v = .nili/\b = !neg)\/∃ u x,v = .ifc u x/\b=neg):OpT P o r.slots F H [] [] (.bool b) H :=
 OpT.pure fun S ρ a w hF _=>by
  have e1:=Qd hx hF (fun _ h=>h) hv
  obtain ⟨ms,hu⟩:=isIf_spec ht
  have hu':P.underlying t=some (.interface (P.methodsAt t)):=by rw [hu]; simp [Program.methodsAt,hu]
  have e3:a.eval (.const .nilIface) = .nilIface:=rfl
  refine ⟨.bool b,?_,.cl (.bool _)⟩
  rcases hb with ⟨rfl,rfl⟩ | ⟨u,y,rfl,rfl⟩
  ·have e2:a.eval x = .nilIface:=by
    cases e1 with
    | cl h=>generalize a.eval x=c at h ⊢; cases h; rfl
   cases neg
   ·simp [execOp,ho,e2,e3,Jk (.inl rfl),run_eql_nil_nil w t hu']
   ·simp [execOp,ho,e2,e3,Jk (.inl rfl),run_neq_nil_nil w t hu']
  ·obtain ⟨c,e2⟩:∃ c,a.eval x = .iface u c:=by
    cases e1 with
    | cl h=>generalize a.eval x=c at h ⊢; cases h; exact ⟨_,rfl⟩
   cases b
   ·simp [execOp,ho,e2,e3,Jk (.inr ⟨u,c,rfl⟩),run_eql_held_nil w t u c hu']
   ·simp [execOp,ho,e2,e3,Jk (.inr ⟨u,c,rfl⟩),run_neq_held_nil w t u c hu']
theorem intsL_spec {w:World} {S:Nat->Prop} {ρ:Rho}:∀ {as:List AV} {la:List Int},Jg as=some la->la.length=as.length/\∀ (j:Nat) (n:Int),la[j]?=some n->as[j]?=some (.int .i64 n)
 | [],la,h=>by simp [Jg] at h; subst h; exact ⟨rfl,fun j n h=>by simp at h⟩
 | v::as,la,h=>by
  cases v with
  | int k n =>
   cases k with
   | i64 =>
    simp only [Jg] at h
    cases hl:Jg as with
    | none=>rw [hl] at h; cases h
    | some l =>
     rw [hl] at h
     injection h with h; subst h
     obtain ⟨g1,g2⟩:=intsL_spec (w:=w) (S:=S) (ρ:=ρ) hl
     refine ⟨by simp [g1],fun j m hj=>?_⟩
     cases j with
     | zero=>simp at hj; subst hj; rfl
     | succ j=>simpa using g2 j m (by simpa using hj)
   | _=>simp [Jg] at h
  | _=>simp [Jg] at h
theorem u8L_spec {w:World} {S:Nat->Prop} {ρ:Rho}:∀ {as:List AV} {la:List Int},u8L as=some la->la.length=as.length/\∀ (j:Nat) (n:Int),la[j]?=some n->as[j]?=some (.int .u8 n)
 | [],la,h=>by simp [u8L] at h; subst h; exact ⟨rfl,fun j n h=>by simp at h⟩
 | v::as,la,h=>by
  cases v with
  | int k n =>
   cases k with
   | u8 =>
    simp only [u8L] at h
    cases hl:u8L as with
    | none=>rw [hl] at h; cases h
    | some l =>
     rw [hl] at h
     injection h with h; subst h
     obtain ⟨g1,g2⟩:=u8L_spec (w:=w) (S:=S) (ρ:=ρ) hl
     refine ⟨by simp [g1],fun j m hj=>?_⟩
     cases j with
     | zero=>simp at hj; subst hj; rfl
     | succ j=>simpa using g2 j m (by simpa using hj)
   | _=>simp [u8L] at h
  | _=>simp [u8L] at h
theorem run_eqFields {d:Nat} {xs ys:Array Value} (w:World):∀ (fs:List Field) (i:Nat) (la lb:List Int),XH P i fs=true->la.length=fs.length->lb.length=fs.length →
  (∀ (j:Nat) (n:Int),la[j]?=some n->xs[i+j]?=some (.int .i64 n))->(∀ (j:Nat) (n:Int),lb[j]?=some n->ys[i+j]?=some (.int .i64 n)) →
  (Op.eqFields (d+1) xs ys fs).run P w = .ok (decide (la=lb)) w
 | [],i,la,lb,_,h1,h2,_,_=>by
  obtain rfl:=List.eq_nil_of_length_eq_zero h1
  obtain rfl:=List.eq_nil_of_length_eq_zero h2
  simp [Op.eqFields]
 | f::fs,i,la,lb,hf,h1,h2,hx,hy=>by
  obtain ⟨a,la,rfl⟩:∃ a l,la=a::l:=by cases la with | nil=>cases h1 | cons a l=>exact ⟨a,l,rfl⟩
  obtain ⟨b,lb,rfl⟩:∃ b l,lb=b::l:=by cases lb with | nil=>cases h2 | cons a l=>exact ⟨a,l,rfl⟩
  simp only [XH,Bool.and_eq_true,decide_eq_true_eq,Bool.not_eq_true',beq_eq_false_iff_ne] at hf
  obtain ⟨⟨⟨⟨g1,g2⟩,g3⟩,g4⟩,g5⟩:=hf
  have hu:P.underlying f.type=some (.int .i64):=by
   revert g2
   split
   ·rename_i h; exact fun _=>h
   ·intro h; cases h
  have p1:=run_part_plain (P:=P) (w:=w) g1 (xs:=xs) (off:=f.offset) (by rw [g3]; exact hx 0 a rfl)
  have p2:=run_part_plain (P:=P) (w:=w) g1 (xs:=ys) (off:=f.offset) (by rw [g3]; exact hy 0 b rfl)
  have ih:=run_eqFields (d:=d) (xs:=xs) (ys:=ys) w fs (i+1) la lb g5 (by simpa using h1) (by simpa using h2)
   (fun j n hj=>by rw [Nat.add_assoc,Nat.add_comm 1 j]; exact hx (j+1) n (by simpa using hj)) (fun j n hj=>by rw [Nat.add_assoc,Nat.add_comm 1 j]; exact hy (j+1) n (by simpa using hj))
  simp only [Op.eqFields,if_pos g4,Sem.run_bind,p1,p2,Result.andThen_ok,run_equalIn_int w d f.type .i64 .i64 a b hu,Sem.run_ite]
  by_cases e:a=b
  ·subst e
   simp only [beq_self_eq_true,Bool.not_true,Bool.false_eq_true,if_false,ih]
   simp
  ·have:(a == b)=false:=by simpa using e
   simp [this,e]
theorem run_vecS {t:TypeId} {n d:Nat} (ht:vecS P t=some n) {D:Array Value} (w:World) (hla:la.length=n) (hlb:lb.length=n) (h1:∀ (j:Nat) (n:Int),la[j]?=some n->C[j]?=some (.int .i64 n)) (h2:∀ (j:Nat) (n:Int),lb[j]?=some n->D[j]?=some (.int .i64 n)) :
  (Op.equalIn (d+2) t (.agg C) (.agg D)).run P w = .ok (decide (la=lb)) w:=by
 unfold vecS at ht
 split at ht
 ·rename_i fs hu
  split at ht
  ·rename_i hcond
   obtain ⟨k1,k2,k3⟩:=hcond
   injection ht with ht
   have hfs:P.fieldsOf t=fs:=by simp [Program.fieldsOf,hu]
   have hq:=run_eqFields (P:=P) (d:=d) (xs:=C) (ys:=D) w fs.toList 0 la lb k1 (by rw [hla,← ht]; simp) (by rw [hlb,← ht]; simp)
    (fun j n hj=>by rw [Nat.zero_add]; exact h1 j n hj) (fun j n hj=>by rw [Nat.zero_add]; exact h2 j n hj)
   rw [run_equalIn_struct w (d+1) t C D (by rw [hfs]; exact hu) k2,hfs]; exact hq
  ·cases ht
 ·cases ht
theorem run_eqFieldsN {d:Nat} {xs ys:Array Value} (w:World):∀ (fs:List Field) (i n:Nat) (la lb:List Int),nestF P i fs=some n->la.length=n->lb.length=n →
  (∀ (j:Nat) (n:Int),la[j]?=some n->xs[i+j]?=some (.int .i64 n))->(∀ (j:Nat) (n:Int),lb[j]?=some n->ys[i+j]?=some (.int .i64 n)) →
  (Op.eqFields (d+2) xs ys fs).run P w = .ok (decide (la=lb)) w
 | [],i,n,la,lb,hf,h1,h2,_,_=>by
  simp only [nestF,Option.some.injEq] at hf
  obtain rfl:=List.eq_nil_of_length_eq_zero (h1.trans hf.symm)
  obtain rfl:=List.eq_nil_of_length_eq_zero (h2.trans hf.symm)
  simp [Op.eqFields]
 | f::fs,i,n,la,lb,hf,h1,h2,hx,hy=>by
  unfold nestF at hf
  split at hf
  ·rename_i m hm
   split at hf
   ·rename_i hc
    obtain ⟨hg,hz,ho,hnm⟩:=hc
    obtain ⟨n',hn',rfl⟩:=Option.map_eq_some_iff.1 hf
    have part_:∀ (X:Array Value),(part f.type X f.offset).run P w = .ok (.agg (X.extract i (i+m))) w:=fun X=>by
     have:=JJ (P:=P) hg hz w X f.offset (.inr rfl)
     rw [ho] at this
     simpa [ho] using this
    have sub:∀ {X:Array Value} {l:List Int},(∀ (j:Nat) (n:Int),l[j]?=some n->X[i+j]?=some (.int .i64 n))->∀ (j:Nat) (n:Int),(l.take m)[j]?=some n->(X.extract i (i+m))[j]?=some (.int .i64 n):=fun {X l} h j n hj=>by
     rw [List.getElem?_take] at hj
     split at hj
     ·rename_i hjm
      have:=h _ n hj
      have hsz:=(Array.getElem?_eq_some_iff.1 this).1
      rw [Array.getElem?_extract,if_pos (by omega)]
      exact this
     ·cases hj
    have drp:∀ {X:Array Value} {l:List Int},(∀ (j:Nat) (n:Int),l[j]?=some n->X[i+j]?=some (.int .i64 n))->∀ (j:Nat) (n:Int),(l.drop m)[j]?=some n->X[i+m+j]?=some (.int .i64 n):=fun {X l} h j n hj=>by
     rw [List.getElem?_drop] at hj
     rw [Nat.add_assoc]
     exact h _ n hj
    have e1:=run_vecS (d:=d) hm w (C:=xs.extract i (i+m)) (D:=ys.extract i (i+m)) (la:=la.take m) (lb:=lb.take m) (by simp; omega) (by simp; omega) (sub hx) (sub hy)
    have p1:=part_ xs
    have p2:=part_ ys
    have ih:=run_eqFieldsN (d:=d) (xs:=xs) (ys:=ys) w fs (i+m) n' (la.drop m) (lb.drop m) hn' (by simp; omega) (by simp; omega) (drp hx) (drp hy)
    simp only [Op.eqFields,if_pos hnm,Sem.run_bind,p1,p2,e1,Result.andThen_ok,Sem.run_ite]
    have hA:la=la.take m++la.drop m:=(List.take_append_drop _ _).symm
    have hB:lb=lb.take m++lb.drop m:=(List.take_append_drop _ _).symm
    have key:(la=lb) ↔ (la.take m=lb.take m/\la.drop m=lb.drop m):=by
     constructor
     ·rintro rfl; exact ⟨rfl,rfl⟩
     ·rintro ⟨h3,h4⟩; rw [hA,hB,h3,h4]
    by_cases q1:la.take m=lb.take m
    ·simp only [q1,decide_true,Bool.not_true,Bool.false_eq_true,if_false,ih]
     simp [key,q1]
    ·simp [q1,key]
   ·cases hf
  ·split at hf
   ·rename_i hc
    obtain ⟨n',hn',rfl⟩:=Option.map_eq_some_iff.1 hf
    obtain ⟨a,la,rfl⟩:∃ a l,la=a::l:=by cases la with | nil=>simp at h1; omega | cons a l=>exact ⟨a,l,rfl⟩
    obtain ⟨b,lb,rfl⟩:∃ b l,lb=b::l:=by cases lb with | nil=>simp at h2; omega | cons a l=>exact ⟨a,l,rfl⟩
    simp only [XH,Bool.and_eq_true,decide_eq_true_eq,Bool.not_eq_true',beq_eq_false_iff_ne] at hc
    obtain ⟨⟨⟨⟨g1,g2⟩,g3⟩,g4⟩,_⟩:=hc
    have hu:P.underlying f.type=some (.int .i64):=by
     revert g2
     split
     ·rename_i h; exact fun _=>h
     ·intro h; cases h
    have p1:=run_part_plain (P:=P) (w:=w) g1 (xs:=xs) (off:=f.offset) (by rw [g3]; exact hx 0 a rfl)
    have p2:=run_part_plain (P:=P) (w:=w) g1 (xs:=ys) (off:=f.offset) (by rw [g3]; exact hy 0 b rfl)
    have ih:=run_eqFieldsN (d:=d) (xs:=xs) (ys:=ys) w fs (i+1) n' la lb hn' (by simp at h1; omega) (by simp at h2; omega)
     (fun j n hj=>by rw [Nat.add_assoc,Nat.add_comm 1 j]; exact hx (j+1) n (by simpa using hj)) (fun j n hj=>by rw [Nat.add_assoc,Nat.add_comm 1 j]; exact hy (j+1) n (by simpa using hj))
    simp only [Op.eqFields,if_pos g4,Sem.run_bind,p1,p2,Result.andThen_ok,run_equalIn_int w (d+1) f.type .i64 .i64 a b hu,Sem.run_ite]
    by_cases e:a=b
    ·subst e
     simp only [beq_self_eq_true,Bool.not_true,Bool.false_eq_true,if_false,ih]
     simp
    ·have:(a == b)=false:=by simpa using e
     simp [this,e]
   ·cases hf
theorem run_vecN {t:TypeId} {n d:Nat} (ht:vecN P t=some n) {D:Array Value} (w:World) (hla:la.length=n) (hlb:lb.length=n) (h1:∀ (j:Nat) (n:Int),la[j]?=some n->C[j]?=some (.int .i64 n)) (h2:∀ (j:Nat) (n:Int),lb[j]?=some n->D[j]?=some (.int .i64 n)) :
  P.eqGuardType P.depth t=false/\(Op.equalIn (d+3) t (.agg C) (.agg D)).run P w = .ok (decide (la=lb)) w:=by
 unfold vecN at ht
 split at ht
 ·rename_i fs hu
  split at ht
  ·rename_i hcond
   obtain ⟨k2,k3⟩:=hcond
   have hfs:P.fieldsOf t=fs:=by simp [Program.fieldsOf,hu]
   have hq:=run_eqFieldsN (P:=P) (d:=d) (xs:=C) (ys:=D) w fs.toList 0 n la lb ht hla hlb
    (fun j n hj=>by rw [Nat.zero_add]; exact h1 j n hj) (fun j n hj=>by rw [Nat.zero_add]; exact h2 j n hj)
   exact ⟨k3,by rw [run_equalIn_struct w (d+2) t C D (by rw [hfs]; exact hu) k2,hfs]; exact hq⟩
  ·cases ht
 ·cases ht
theorem run_eqItems1 {d:Nat} {e:TypeId} {C D:Array Value} (w:World) (hu:P.underlying e=some (.int .i64)) (hg:aggP P e=some false) (hz:QL P e=some 1):∀ (la lb:List Int) (i:Nat),la.length=lb.length →
  (∀ (j:Nat) (n:Int),la[j]?=some n->C[i+j]?=some (.int .i64 n))->(∀ (j:Nat) (n:Int),lb[j]?=some n->D[i+j]?=some (.int .i64 n)) →
  (Op.eqItems (d+1) e 1 C D (List.range' i la.length)).run P w = .ok (decide (la=lb)) w
 | [],lb,i,h,_,_=>by
  obtain rfl:=List.eq_nil_of_length_eq_zero h.symm
  simp [Op.eqItems]
 | a::la,lb,i,h,hx,hy=>by
  obtain ⟨b,lb,rfl⟩:∃ b l,lb=b::l:=by cases lb with | nil=>cases h | cons a l=>exact ⟨a,l,rfl⟩
  have part_:∀ {X:Array Value} {n:Int},X[i]?=some (.int .i64 n)->(part e X i).run P w = .ok (.int .i64 n) w:=fun {X n} hX=>by
   have hl:=(Array.getElem?_eq_some_iff.1 hX).1
   have:=JJ (P:=P) hg hz w X i (.inl hl)
   rw [this]
   simp [Array.getD,hl,(Array.getElem?_eq_some_iff.1 hX).2]
  have p1:=part_ (hx 0 a rfl)
  have p2:=part_ (hy 0 b rfl)
  have ih:=run_eqItems1 (d:=d) (C:=C) (D:=D) w hu hg hz la lb (i+1) (by simpa using h)
   (fun j n hj=>by rw [Nat.add_assoc,Nat.add_comm 1 j]; exact hx (j+1) n (by simpa using hj)) (fun j n hj=>by rw [Nat.add_assoc,Nat.add_comm 1 j]; exact hy (j+1) n (by simpa using hj))
  simp only [List.length_cons,List.range'_succ,Op.eqItems,Sem.run_bind,Nat.mul_one,p1,p2,Result.andThen_ok,run_equalIn_int w d e .i64 .i64 a b hu,Sem.run_ite]
  by_cases q:a=b
  ·subst q
   simp only [beq_self_eq_true,Bool.not_true,Bool.false_eq_true,if_false,ih]
   simp
  ·have:(a == b)=false:=by simpa using q
   simp [this,q]
theorem run_vecAr {t:TypeId} {n d:Nat} (ht:vecAr P t=some n) {D:Array Value} (w:World) (hla:la.length=n) (hlb:lb.length=n) (h1:∀ (j:Nat) (n:Int),la[j]?=some n->C[j]?=some (.int .i64 n)) (h2:∀ (j:Nat) (n:Int),lb[j]?=some n->D[j]?=some (.int .i64 n)) :
  P.eqGuardType P.depth t=false/\(Op.equalIn (d+2) t (.agg C) (.agg D)).run P w = .ok (decide (la=lb)) w:=by
 unfold vecAr at ht
 split at ht
 ·rename_i n' e hu
  split at ht
  ·rename_i hc
   obtain ⟨g0,g1,g2,g3,g4,g5⟩:=hc
   injection ht with ht; subst ht
   obtain ⟨i,hi⟩:=Option.isSome_iff_exists.1 g4
   refine ⟨g5,?_⟩
   rw [run_equalIn_array w (d+1) C D hu hi,g1,List.range_eq_range',← hla]
   exact run_eqItems1 w (isI64T_spec g0) g2 g3 la lb 0 (by omega) (fun j n hj=>by rw [Nat.zero_add]; exact h1 j n hj) (fun j n hj=>by rw [Nat.zero_add]; exact h2 j n hj)
  ·cases ht
 ·cases ht
theorem run_vecE {e:TypeId} {m d:Nat} (he:vecE P e=some m) {D:Array Value} (w:World) (hla:la.length=m) (hlb:lb.length=m) (h1:∀ (j:Nat) (n:Int),la[j]?=some n->C[j]?=some (.int .i64 n)) (h2:∀ (j:Nat) (n:Int),lb[j]?=some n->D[j]?=some (.int .i64 n)) :
  (Op.equalIn (d+2) e (.agg C) (.agg D)).run P w = .ok (decide (la=lb)) w:=by
 unfold vecE at he
 split at he
 ·rename_i m' hm
  injection he with he; subst he
  exact run_vecS hm w hla hlb h1 h2
 ·exact (run_vecAr he w hla hlb h1 h2).2
theorem run_eqItemsM {d m:Nat} {e:TypeId} {C D:Array Value} (w:World) (he:vecE P e=some m) (hg:aggP P e=some true) (hz:QL P e=some m):∀ (cnt:Nat) (la lb:List Int) (i:Nat),la.length=cnt*m->lb.length=cnt*m →
  (∀ (j:Nat) (n:Int),la[j]?=some n->C[i*m+j]?=some (.int .i64 n))->(∀ (j:Nat) (n:Int),lb[j]?=some n->D[i*m+j]?=some (.int .i64 n)) →
  (Op.eqItems (d+2) e m C D (List.range' i cnt)).run P w = .ok (decide (la=lb)) w
 | 0,la,lb,i,ha,hb,_,_=>by
  obtain rfl:=List.eq_nil_of_length_eq_zero (ha.trans (Nat.zero_mul m))
  obtain rfl:=List.eq_nil_of_length_eq_zero (hb.trans (Nat.zero_mul m))
  simp [Op.eqItems]
 | cnt+1,la,lb,i,ha,hb,hx,hy=>by
  rw [Nat.add_mul,Nat.one_mul] at ha hb
  have part_:∀ (X:Array Value) (off:Nat),(part e X off).run P w = .ok (.agg (X.extract off (off+m))) w:=fun X off=>by
   have:=JJ (P:=P) hg hz w X off (.inr rfl)
   simpa using this
  have sub:∀ {X:Array Value} {l:List Int},(∀ (j:Nat) (n:Int),l[j]?=some n->X[i*m+j]?=some (.int .i64 n))->∀ (j:Nat) (n:Int),(l.take m)[j]?=some n->(X.extract (i*m) (i*m+m))[j]?=some (.int .i64 n):=fun {X l} h j n hj=>by
   rw [List.getElem?_take] at hj
   split at hj
   ·rename_i hjm
    have:=h _ n hj
    have hsz:=(Array.getElem?_eq_some_iff.1 this).1
    rw [Array.getElem?_extract,if_pos (by omega)]
    exact this
   ·cases hj
  have drp:∀ {X:Array Value} {l:List Int},(∀ (j:Nat) (n:Int),l[j]?=some n->X[i*m+j]?=some (.int .i64 n))->∀ (j:Nat) (n:Int),(l.drop m)[j]?=some n->X[(i+1)*m+j]?=some (.int .i64 n):=fun {X l} h j n hj=>by
   rw [List.getElem?_drop] at hj
   rw [Nat.add_mul,Nat.one_mul,Nat.add_assoc]
   exact h _ n hj
  have e1:=run_vecE (d:=d) he w (C:=C.extract (i*m) (i*m+m)) (D:=D.extract (i*m) (i*m+m)) (la:=la.take m) (lb:=lb.take m) (by simp; omega) (by simp; omega) (sub hx) (sub hy)
  have p1:=part_ C (i*m)
  have p2:=part_ D (i*m)
  have ih:=run_eqItemsM (d:=d) (C:=C) (D:=D) w he hg hz cnt (la.drop m) (lb.drop m) (i+1) (by simp; omega) (by simp; omega) (drp hx) (drp hy)
  simp only [List.range'_succ,Op.eqItems,Sem.run_bind,p1,p2,e1,Result.andThen_ok,Sem.run_ite]
  have hA:la=la.take m++la.drop m:=(List.take_append_drop _ _).symm
  have hB:lb=lb.take m++lb.drop m:=(List.take_append_drop _ _).symm
  have key:(la=lb) ↔ (la.take m=lb.take m/\la.drop m=lb.drop m):=by
   constructor
   ·rintro rfl; exact ⟨rfl,rfl⟩
   ·rintro ⟨h3,h4⟩; rw [hA,hB,h3,h4]
  by_cases q1:la.take m=lb.take m
  ·simp only [q1,decide_true,Bool.not_true,Bool.false_eq_true,if_false,ih]
   simp [key,q1]
  ·simp [q1,key]
theorem run_vecT {t:TypeId} {n:Nat} (ht:vecT P t=some n) {D:Array Value} (w:World) (hla:la.length=n) (hlb:lb.length=n) (h1:∀ (j:Nat) (n:Int),la[j]?=some n->C[j]?=some (.int .i64 n)) (h2:∀ (j:Nat) (n:Int),lb[j]?=some n->D[j]?=some (.int .i64 n)) :
  P.eqGuardType P.depth t=false/\(Op.equalIn 10000 t (.agg C) (.agg D)).run P w = .ok (decide (la=lb)) w:=by
 unfold vecT at ht
 split at ht
 ·rename_i n' e hu
  split at ht
  ·rename_i m hm
   split at ht
   ·rename_i hc
    obtain ⟨g1,g2,g3,g4,g5⟩:=hc
    injection ht with ht
    obtain ⟨i,hi⟩:=Option.isSome_iff_exists.1 g5
    refine ⟨g1,?_⟩
    rw [run_equalIn_array w 9999 C D hu hi,g2,List.range_eq_range']
    exact run_eqItemsM (d:=9997) w hm g3 g4 n' la lb 0 (by omega) (by omega) (fun j n hj=>by rw [Nat.zero_mul,Nat.zero_add]; exact h1 j n hj) (fun j n hj=>by rw [Nat.zero_mul,Nat.zero_add]; exact h2 j n hj)
   ·cases ht
  ·exact run_vecAr (d:=9998) ht w hla hlb h1 h2
 ·split at ht
  ·rename_i hs
   injection ht with ht; subst ht
   refine ⟨?_,run_vecS (d:=9998) hs w hla hlb h1 h2⟩
   unfold vecS at hs
   split at hs
   ·split at hs
    ·rename_i hcond; exact hcond.2.2
    ·cases hs
   ·cases hs
  ·exact run_vecN (d:=9997) ht w hla hlb h1 h2
theorem opt_aeq {n:Nat} {t:TypeId} {x y:Operand} (ht:vecT P t=some n) (hx:Qu x=some rx) (hy:Qu y=some ry) (ho:o.op = .binOp (if neg=true then .neq else .eql) t x y yt)
  (h1:Qe F rx=some (.agg as)) (h2:Qe F ry=some (.agg bs)) (ha:Jg as=some la) (hb:Jg bs=some lb) (hla:la.length=n) (hlb:lb.length=n):OpT P o (rx.slots++ry.slots) F H [] [] (.bool (neg != decide (la=lb))) H :=
 OpT.pure fun S ρ ac w hF _=>by
  obtain ⟨C,e1,c1,_,c2⟩:=(Qd hx hF (fun _ h=>by simp [h]) h1).agg_inv
  obtain ⟨D,e2,d1,_,d2⟩:=(Qd hy hF (fun _ h=>by simp [h]) h2).agg_inv
  obtain ⟨i1,i2⟩:=intsL_spec (w:=w) (S:=S) (ρ:=ρ) ha
  obtain ⟨j1,j2⟩:=intsL_spec (w:=w) (S:=S) (ρ:=ρ) hb
  have cell:∀ {C:Array Value} {as:List AV},C.size=as.length->(∀ j v,as[j]?=some v->VR w S ρ v (C.getD j undef))->∀ (j:Nat) (n:Int),as[j]?=some (.int .i64 n)->C[j]?=some (.int .i64 n):=fun {C as} hs h j n hj=>by
   have:=(h j _ hj).int_inv
   have hl:j<C.size:=by rw [hs]; exact (List.getElem?_eq_some_iff.1 hj).1
   rw [Array.getD_eq_getD_getElem?,Array.getElem?_eq_getElem hl] at this
   rw [Array.getElem?_eq_getElem hl]; exact congrArg some this
  obtain ⟨k3,heq⟩:=run_vecT ht w hla hlb (fun j n hj=>cell c1 c2 j n (i2 j n hj)) (fun j n hj=>cell d1 d2 j n (j2 j n hj))
  refine ⟨.bool (neg != decide (la=lb)),?_,.cl (.bool _)⟩
  cases neg
  ·simp [execOp,ho,e1,e2,run_eqGuard_agg w _ t x y C D k3,run_eql_struct,heq]
  ·simp [execOp,ho,e1,e2,run_eqGuard_agg w _ t x y C D k3,run_neq_struct,heq]
theorem run_eqItems8 {d:Nat} {e:TypeId} {C D:Array Value} (w:World) (hu:P.underlying e=some (.int .u8)) (hg:aggP P e=some false) (hz:QL P e=some 1):∀ (la lb:List Int) (i:Nat),la.length=lb.length →
  (∀ (j:Nat) (n:Int),la[j]?=some n->C[i+j]?=some (.int .u8 n))->(∀ (j:Nat) (n:Int),lb[j]?=some n->D[i+j]?=some (.int .u8 n)) →
  (Op.eqItems (d+1) e 1 C D (List.range' i la.length)).run P w = .ok (decide (la=lb)) w
 | [],lb,i,h,_,_=>by
  obtain rfl:=List.eq_nil_of_length_eq_zero h.symm
  simp [Op.eqItems]
 | a::la,lb,i,h,hx,hy=>by
  obtain ⟨b,lb,rfl⟩:∃ b l,lb=b::l:=by cases lb with | nil=>cases h | cons a l=>exact ⟨a,l,rfl⟩
  have part_:∀ {X:Array Value} {c:Value},X[i+0]?=some c->(part e X i).run P w = .ok c w:=fun {X c} hX=>by
   rw [Nat.add_zero] at hX
   have hl:=(Array.getElem?_eq_some_iff.1 hX).1
   have:=JJ (P:=P) hg hz w X i (.inl hl)
   rw [this]
   simp [Array.getD,hl,(Array.getElem?_eq_some_iff.1 hX).2]
  have p1:=part_ (hx 0 a rfl)
  have p2:=part_ (hy 0 b rfl)
  have ih:=run_eqItems8 (d:=d) (C:=C) (D:=D) w hu hg hz la lb (i+1) (by simpa using h)
   (fun j n hj=>by rw [Nat.add_assoc,Nat.add_comm 1 j]; exact hx (j+1) n (by simpa using hj)) (fun j n hj=>by rw [Nat.add_assoc,Nat.add_comm 1 j]; exact hy (j+1) n (by simpa using hj))
  simp only [List.length_cons,List.range'_succ,Op.eqItems,Sem.run_bind,Nat.mul_one,p1,p2,Result.andThen_ok,run_equalIn_int w d e .u8 .u8 a b hu,Sem.run_ite]
  by_cases q:a=b
  ·subst q
   simp only [beq_self_eq_true,Bool.not_true,Bool.false_eq_true,if_false,ih]
   simp
  ·have:(a == b)=false:=by simpa using q
   simp [this,q]
theorem opt_aeq8 {n:Nat} {t:TypeId} {x y:Operand} (ht:vecA8 P t=some n) (hx:Qu x=some rx) (hy:Qu y=some ry) (ho:o.op = .binOp .eql t x y yt)
  (h1:Qe F rx=some (.agg as)) (h2:Qe F ry=some (.agg bs)) (ha:u8L as=some la) (hb:u8L bs=some lb) (hla:la.length=n) (hlb:lb.length=n):OpT P o (rx.slots++ry.slots) F H [] [] (.bool (decide (la=lb))) H :=
 OpT.pure fun S ρ ac w hF _=>by
  obtain ⟨C,e1,c1,_,c2⟩:=(Qd hx hF (fun _ h=>by simp [h]) h1).agg_inv
  obtain ⟨D,e2,d1,_,d2⟩:=(Qd hy hF (fun _ h=>by simp [h]) h2).agg_inv
  obtain ⟨i1,i2⟩:=u8L_spec (w:=w) (S:=S) (ρ:=ρ) ha
  obtain ⟨j1,j2⟩:=u8L_spec (w:=w) (S:=S) (ρ:=ρ) hb
  have cell:∀ {C:Array Value} {as:List AV},C.size=as.length->(∀ j v,as[j]?=some v->VR w S ρ v (C.getD j undef))->∀ (j:Nat) (n:Int),as[j]?=some (.int .u8 n)->C[j]?=some (.int .u8 n):=fun {C as} hs h j n hj=>by
   have:=(h j _ hj).int_inv
   have hl:j<C.size:=by rw [hs]; exact (List.getElem?_eq_some_iff.1 hj).1
   rw [Array.getD_eq_getD_getElem?,Array.getElem?_eq_getElem hl] at this
   rw [Array.getElem?_eq_getElem hl]; exact congrArg some this
  unfold vecA8 at ht
  split at ht
  ·rename_i n' e hu
   split at ht
   ·rename_i hc
    obtain ⟨g0,g1,g2,g3,g4,g5⟩:=hc
    injection ht with ht; subst ht
    obtain ⟨i,hi⟩:=Option.isSome_iff_exists.1 g4
    have hu8:P.underlying e=some (.int .u8):=by
     unfold isU8T at g0
     split at g0
     ·assumption
     ·cases g0
    have heq:(Op.equalIn 10000 t (.agg C) (.agg D)).run P w = .ok (decide (la=lb)) w:=by
     rw [run_equalIn_array w 9999 C D hu hi,g1,List.range_eq_range',← hla]
     exact run_eqItems8 (d:=9998) w hu8 g2 g3 la lb 0 (by omega) (fun j n hj=>by rw [Nat.zero_add]; exact cell c1 c2 j n (i2 j n hj)) (fun j n hj=>by rw [Nat.zero_add]; exact cell d1 d2 j n (j2 j n hj))
    refine ⟨.bool (decide (la=lb)),?_,.cl (.bool _)⟩
    simp [execOp,ho,e1,e2,run_eqGuard_agg w _ t x y C D g5,run_eql_struct,heq]
   ·cases ht
  ·cases ht
theorem opt_mkbnd {f:Nat} {x:Operand} (hf:first.toList=[x]) (hcp:captured.toList=[]) (hx:Qu x=some r) (ho:o.op = .makeFunc (.func f) first captured) {v:AV} (hv:Qe F r=some v):OpT P o r.slots F H [] [] (.bnd (.func f) v) H :=
 OpT.pure fun S ρ a w hF _=>by
  have e1:=Qd hx hF (fun _ h=>h) hv
  have h1:first = #[x]:=by rw [← Array.toArray_toList (xs:=first),hf]
  have h2:captured = #[]:=by rw [← Array.toArray_toList (xs:=captured),hcp]
  refine ⟨.func (.func f) #[a.eval x] #[],?_,.bnd (.func f) v _ e1⟩
  simp [execOp,ho,h1,h2,Instr.makeFunc]
def FmE (w:World) (S:Nat->Prop) (ρ:Rho) (b:Nat) (kvs:List (Int×AV)):Prop:=∃ es clock,w.heap[b]?=some (.map es clock)/\es.toList.map (fun x=>x.key)=kvs.map (fun x=>Value.int .i64 x.1)/\∀ (k:Nat) (x:Int×AV) (e:MapEntry),kvs[k]?=some x->es[k]?=some e->VR w S ρ x.2 e.val
theorem fm_inv {I:Nat->Prop} (hH:HRi I w S ρ H) {i:Nat} (hI:I i) (hg:get H i=some (.fm kvs)) {b z cap:Nat} (hρ:ρ i=some (some b,z,cap)):¬ S b/\FmE w S ρ b kvs:=by
 obtain ⟨bk,z1,c1,q1,b1,es,clk,e1,q3,q4,q5,q6⟩:=hH.ob i _ hI hg
 rw [hρ] at q1
 injection q1 with q1
 obtain ⟨rfl,rfl,rfl⟩:some b=bk/\z=z1/\cap=c1:=by simpa using q1
 injection e1 with e1; subst e1
 exact ⟨q3,es,clk,q4,q5,q6⟩
theorem run_mapnew {t k e:TypeId} (hu:P.underlying t=some (.map k e)) (hk:P.underlying k=some (.int .i64)) {b clock:Nat} {es:Array MapEntry} (hb:w.heap[b]?=some (.map es clock))
  (hks:es.toList.map (fun x=>x.key)=kvs.map (fun x=>Value.int .i64 x.1)) {n:Int} (hn:hasK kvs n=false) (v:Value):(Instr.mapUpdate t (.map (some b)) (.int .i64 n) v).run P w = .ok () { w with heap:=w.heap.setIfInBounds b (.map (es.push { key:=.int .i64 n,val:=v,born:=clock }) (clock+1)) }:=by
 have hkey:MapKept.IsKey (.int .i64) (.int .i64 n):=rfl
 have hmem:∀ x,x∈es.toList->∃ m∈kvs,x.key = .int .i64 m.1:=fun x hx=>by
  have:x.key∈es.toList.map (fun x=>x.key):=List.mem_map.2 ⟨x,hx,rfl⟩
  rw [hks] at this
  obtain ⟨m,h1,hm⟩:=List.mem_map.1 this
  exact ⟨m,h1,hm.symm⟩
 have hall:∀ x∈es.toList,MapKept.IsKey (.int .i64) x.key:=fun x hx=>by
  obtain ⟨m,_,hm⟩:=hmem x hx
  rw [hm]; rfl
 rcases MapKept.findNow_spec hkey es.toList 0 hall with ⟨h1,h2⟩ | ⟨j,e',h1,h2,h3⟩
 ·simp only [Instr.mapUpdate,Sem.run_bind,run_underlying hu,Result.andThen_ok,MapKept.run_getObj_map hb,MapKept.run_checkKey hk hkey,MapKept.run_findKey hk h1,MapKept.run_setObj_map _ hb]
 ·obtain ⟨m,h4,h5⟩:=hmem e' (List.mem_of_getElem? h2)
  rw [h3] at h5
  injection h5 with _ h5
  have:hasK kvs n=true:=List.any_eq_true.2 ⟨m,h4,by simp [h5]⟩
  rw [hn] at this; cases this
theorem opt_fins {t:TypeId} {m k x:Operand} (ht:isMapI P t=true) (hm:Qu m=some rm) (hk:Qu k=some rk) (hx:Qu x=some rx) (ho:o.op = .insert t m k x) {i:Nat} {n:Int} {u:AV} {ob:Ob}
  (h1:Qe F rm=some (.mp i)) (h2:Qe F rk=some (.int .i64 n)) (h3:Qe F rx=some u) (hi:get H i=some ob) (hob:(ob = .mset []/\kvs=[])\/(ob = .fm kvs/\hasK kvs n=false)):OpT P o (rm.slots++rk.slots++rx.slots) F H [] [i] .und ((i,.fm (kvs++[(n,u)]))::H):=by
 obtain ⟨kt,et,hu,hkt⟩:=isMapI_spec ht
 intro S ρ a w Q K hF hS hH _ hK
 obtain ⟨b,z,cap,hρ,e1⟩:=(Qd hm hF (fun _ h=>by simp [h]) h1).mp_inv
 have e2:=(Qd hk hF (fun _ h=>by simp [h]) h2).int_inv
 have e3:=Qd hx hF (fun _ h=>by simp [h]) h3
 have hlive:ob.live=true:=by rcases hob with ⟨rfl,_⟩ | ⟨rfl,_⟩ <;> rfl
 obtain ⟨hs,es,clk,hb,hks,hvs⟩:¬ S b/\FmE w S ρ b kvs:=by
  rcases hob with ⟨rfl,rfl⟩ | ⟨rfl,_⟩
  ·obtain ⟨g1,es,clk,g2,g3,_⟩:=mset_inv hH (by simp) hi hρ
   exact ⟨g1,es,clk,g2,g3,fun k x e h=>by simp at h⟩
  ·exact fm_inv hH (by simp) hi hρ
 have hn:hasK kvs n=false:=by
  rcases hob with ⟨_,rfl⟩ | ⟨_,h⟩
  ·rfl
  ·exact h
 have hrun:=run_mapnew (P:=P) hu hkt hb hks hn (a.eval x)
 obtain ⟨hset,hoth⟩:=MapKept.heap_set (o':=.map (es.push { key:=.int .i64 n,val:=a.eval x,born:=clk }) (clk+1)) hb
 generalize hes:es.push { key:=.int .i64 n,val:=a.eval x,born:=clk }=es' at hrun hset hoth
 refine .inl ?_
 unfold Oper.wp
 have hr:(execOp a.eval o).run P w = .ok .skip { w with heap:=w.heap.setIfInBounds b (.map es' (clk+1)) }:=by
  simp [execOp,ho,e1,e2,hrun]
 rw [hr]
 have hsz:({ w with heap:=w.heap.setIfInBounds b (.map es' (clk+1)) }:World).heap.size=w.heap.size:=by simp
 have hcell:∀ (ad:Addr) (c:Value),S ad.block->w.cell? ad=some c->({ w with heap:=w.heap.setIfInBounds b (.map es' (clk+1)) }:World).cell? ad=some c:=fun ad c hsb hc=>by
  rw [World.cell?_of_block (w:=w) (hoth ad.block (fun e=>by rw [e] at hsb; exact hs hsb))]; exact hc
 have hgeti:get ((i,Ob.fm (kvs++[(n,u)]))::H) i=some (.fm (kvs++[(n,u)])):=by simp [get]
 have live_i:Jb ρ H (fun k=>k∈[]\/k∈[i]) b:=⟨i,_,z,cap,by simp,hi,hlive,hρ⟩
 have hlen:es.size=kvs.length:=by simpa using congrArg List.length hks
 refine hK undef _ S ρ (.cl .und) ⟨fun q ob' hq hg=>?_,fun q l oq ol b' z' z'' c' c'' hq hl hne=>?_⟩
  ⟨⟨rfl,rfl,rfl,by rw [hsz]; exact Nat.le_refl _,fun q hq hn=>hoth q (fun e=>by subst e; exact hn live_i)⟩,fun _ h=>h,fun _ h=>.inl h,fun b' hb'=>by rw [hsz]; exact hS b' hb',fun b' hb'=>?_,fun _ _=>rfl⟩
 ·have hqi:q=i:=by simpa using hq
  subst hqi
  rw [hgeti] at hg
  injection hg with hg; subst hg
  refine ⟨some b,z,cap,hρ,b,es',clk+1,rfl,hs,hset,?_,fun k' x' e' hx' he'=>?_⟩
  ·rw [← hes,Array.toList_push,List.map_append,hks,List.map_append]; rfl
  ·rw [← hes,Array.getElem?_push] at he'
   by_cases hkk:k'=es.size
   ·rw [if_pos hkk] at he'
    injection he' with he'; subst he'
    rw [hkk,hlen,List.getElem?_append_right (Nat.le_refl _)] at hx'
    simp at hx'
    subst hx'
    exact e3.mono (fun _ h=>h) hcell (fun _ _ h=>h)
   ·rw [if_neg hkk] at he'
    have hlt:=(Array.getElem?_eq_some_iff.1 he').1
    rw [List.getElem?_append_left (by omega)] at hx'
    exact (hvs k' x' e' hx' he').mono (fun _ h=>h) hcell (fun _ _ h=>h)
 ·have q1:q=i:=by simpa using hq
  have q2:l=i:=by simpa using hl
  exact absurd (q1.trans q2.symm) hne
 ·obtain ⟨q,ob',z',cap',hq,hg,hl,hrq⟩:=hb'
  have hqi:q=i:=by simpa using hq
  subst hqi
  exact .inl ⟨q,_,z',cap',hq,hi,hlive,hrq⟩
theorem find_nodup:∀ {kvs:List (Int×AV)} {j:Nat} {x:Int×AV},nodupI kvs=true->kvs[j]?=some x->kvs.find? (fun y=>y.1 == x.1)=some x
 | y::l,0,x,_,h=>by
  simp at h; subst h; simp
 | y::l,j+1,x,hd,h=>by
  simp only [nodupI,Bool.and_eq_true,Bool.not_eq_true'] at hd
  have hx:l[j]?=some x:=by simpa using h
  have hne:(y.1 == x.1)=false:=by
   cases e:y.1 == x.1 with
   | false=>rfl
   | true =>
    have:hasK l y.1=true:=List.any_eq_true.2 ⟨x,List.mem_of_getElem? hx,by simp at e ⊢; exact e.symm⟩
    rw [hd.1] at this; cases this
  rw [List.find?_cons,hne]
  exact find_nodup hd.2 hx
theorem mapFn_spec {t:TypeId} (h:mapFn P t=true):∃ k e i,P.underlying t=some (.map k e)/\P.underlying k=some (.int .i64)/\P.info? e=some i/\i.zero=some .nilFunc:=by
 unfold mapFn at h
 rw [Bool.and_eq_true] at h
 obtain ⟨k,e,hu,hk⟩:=isMapI_spec h.1
 have h2:=h.2
 rw [hu] at h2
 dsimp only at h2
 split at h2
 ·rename_i i hi
  split at h2
  ·rename_i hz; exact ⟨k,e,i,hu,hk,hi,hz⟩
  ·cases h2
 ·cases h2
theorem opt_flk {t:TypeId} {m k:Operand} (ht:mapFn P t=true) (hm:Qu m=some rm) (hk:Qu k=some rk) (ho:o.op = .lookup t m k true) {i:Nat} {n:Int}
  (h1:Qe F rm=some (.mp i)) (h2:Qe F rk=some (.int .i64 n)) (hi:get H i=some (.fm kvs)) (hnd:nodupI kvs=true):OpT P o (rm.slots++rk.slots) F H [i] [] (lkF kvs n) H :=
 OpT.pure fun S ρ a w hF hH=>by
  obtain ⟨kt,et,inf,hu,hkt,hinf,hz⟩:=mapFn_spec ht
  obtain ⟨b,z,cap,hρ,e1⟩:=(Qd hm hF (fun _ h=>by simp [h]) h1).mp_inv
  have e2:=(Qd hk hF (fun _ h=>by simp [h]) h2).int_inv
  obtain ⟨hs,es,clk,hb,hks,hvs⟩:=fm_inv hH (by simp) hi hρ
  have hkey:MapKept.IsKey (.int .i64) (.int .i64 n):=rfl
  have hlen:es.size=kvs.length:=by simpa using congrArg List.length hks
  have hat:∀ (j:Nat) (e:MapEntry),es[j]?=some e->∃ x,kvs[j]?=some x/\e.key = .int .i64 x.1:=fun j e he=>by
   have:=congrArg (fun l=>l[j]?) hks
   simp only [List.getElem?_map,Array.getElem?_toList,he,Option.map_some] at this
   cases hx:kvs[j]? with
   | none=>rw [hx] at this; cases this
   | some x=>rw [hx] at this; injection this with this; exact ⟨x,rfl,this⟩
  have hall:∀ x∈es.toList,MapKept.IsKey (.int .i64) x.key:=fun x hx=>by
   obtain ⟨j,hj⟩:=List.getElem?_of_mem hx
   obtain ⟨y,_,hy⟩:=hat j x (by simpa using hj)
   rw [hy]; rfl
  rcases MapKept.findNow_spec hkey es.toList 0 hall with ⟨g1,g2⟩ | ⟨j,e',g1,g2,g3⟩
  ·have hno:kvs.find? (fun x=>x.1 == n)=none:=by
    rw [List.find?_eq_none]
    intro x hx hxe
    obtain ⟨j,hj⟩:=List.getElem?_of_mem hx
    have hlt:=(List.getElem?_eq_some_iff.1 hj).1
    have he:es[j]?=some (es[j]'(by omega)):=Array.getElem?_eq_getElem (by omega)
    obtain ⟨y,hy1,hy2⟩:=hat j _ he
    rw [hj] at hy1
    injection hy1 with hy1; subst hy1
    have:x.1=n:=by simpa using hxe
    exact g2 _ (Array.mem_toList_iff.2 (Array.mem_of_getElem? he)) (by rw [hy2,this])
   refine ⟨.tuple #[.nilFunc,.bool false],?_,?_⟩
   ·simp [execOp,ho,e1,e2,Instr.lookup,run_underlying hu,MapKept.run_getObj_map hb,MapKept.run_checkKey hkt hkey,MapKept.run_findKey hkt g1,Result.andThen,zeroValue,typeInfo,hinf,hz]
   ·unfold lkF
    rw [hno]
    exact .cl (.tup _ _ rfl fun j v hj=>by
     match j,hj with
     | 0,hj=>simp at hj; subst hj; exact .nilf
     | 1,hj=>simp at hj; subst hj; exact .bool false)
  ·have he:es[j]?=some e':=by simpa using g2
   obtain ⟨x,hx1,hx2⟩:=hat j e' he
   have hxn:x.1=n:=by rw [g3] at hx2; injection hx2 with _ hx2; exact hx2.symm
   have hf:=find_nodup hnd hx1
   rw [hxn] at hf
   refine ⟨.tuple #[e'.val,.bool true],?_,?_⟩
   ·simp [execOp,ho,e1,e2,Instr.lookup,run_underlying hu,MapKept.run_getObj_map hb,MapKept.run_checkKey hkt hkey,MapKept.run_findKey hkt g1,Result.andThen]
   ·unfold lkF
    rw [hf]
    exact .tup _ _ rfl fun q v hq=>by
     match q,hq with
     | 0,hq=>simp at hq; subst hq; exact hvs j x e' hx1 he
     | 1,hq=>simp at hq; subst hq; exact .cl (.bool true)
theorem mapS_spec {t:TypeId} {n:Nat} (h:mapS P t=some n):∃ k e i,P.underlying t=some (.map k e)/\vecK P k=some n/\P.info? e=some i/\i.zero=some (.bool false):=by
 unfold mapS at h
 split at h
 ·rename_i k e hu
  split at h
  ·rename_i n' i hv hi
   split at h
   ·rename_i hz; injection h with h; subst h; exact ⟨k,e,i,hu,hv,hi,hz⟩
   ·cases h
  ·cases h
 ·cases h
theorem vecS_fields {k:TypeId} {n:Nat} (h:vecS P k=some n):∃ fs,P.underlying k=some (.struct fs)/\XH P 0 fs.toList=true/\fs.size=n:=by
 unfold vecS at h
 split at h
 ·rename_i fs hu
  split at h
  ·rename_i hc; injection h with h; exact ⟨fs,hu,hc.1,h⟩
  ·cases h
 ·cases h
theorem flat_each {xs:Array Value} (w:World):∀ (fs:List Field) (i:Nat) (la:List Int),XH P i fs=true->la.length=fs.length->(∀ (j:Nat) (n:Int),la[j]?=some n->xs[i+j]?=some (.int .i64 n)) →
  ∀ f ∈ fs, f.name ≠ "_" ∧ P.underlying f.type = some (.int .i64) ∧ ∃ a, (part f.type xs f.offset).run P w = .ok (.int .i64 a) w
 | [],i,la,_,_,_=>fun f hf=>by cases hf
 | f::fs,i,la,hf,h1,hx=>by
  obtain ⟨a,la,rfl⟩:∃ a l,la=a::l:=by cases la with | nil=>cases h1 | cons a l=>exact ⟨a,l,rfl⟩
  simp only [XH,Bool.and_eq_true,decide_eq_true_eq,Bool.not_eq_true',beq_eq_false_iff_ne] at hf
  obtain ⟨⟨⟨⟨g1,g2⟩,g3⟩,g4⟩,g5⟩:=hf
  have hu:P.underlying f.type=some (.int .i64):=by
   revert g2
   split
   ·rename_i h; exact fun _=>h
   ·intro h; cases h
  have p1:=run_part_plain (P:=P) (w:=w) g1 (xs:=xs) (off:=f.offset) (by rw [g3]; exact hx 0 a rfl)
  intro g hg
  rcases List.mem_cons.1 hg with rfl | hg
  ·exact ⟨g4,hu,a,p1⟩
  ·exact flat_each w fs (i+1) la g5 (by simpa using h1) (fun j n hj=>by rw [Nat.add_assoc,Nat.add_comm 1 j]; exact hx (j+1) n (by simpa using hj)) g hg
theorem keyV_at {l:List Int} (j:Nat) (n:Int) (h:l[j]?=some n):((l.map (Value.int .i64)).toArray)[j]?=some (.int .i64 n):=by simp [h]
theorem run_checkKey_vec {k:TypeId} {n:Nat} (h:vecS P k=some n) {l:List Int} (hl:l.length=n) (w:World) (em:Bool) (d:Nat):(Instr.checkKey em (d+2) k (JO l)).run P w = .ok () w:=by
 obtain ⟨fs,hu,hf,hn⟩:=vecS_fields h
 unfold JO
 rw [show d+2=(d+1)+1 from rfl,Instr.checkKey]
 simp only [Sem.run_bind,run_underlying hu,Result.andThen_ok]
 rw [← Array.forIn_toList]
 have each:=flat_each (P:=P) (xs:=(l.map (Value.int .i64)).toArray) w fs.toList 0 l hf (by rw [hl,← hn]; simp) (fun j n hj=>by rw [Nat.zero_add]; exact keyV_at j n hj)
 generalize fs.toList=L at each
 induction L with
 | nil=>simp
 | cons f L ih =>
  obtain ⟨g1,g2,a,g3⟩:=each f (by simp)
  have p2:=MapKept.run_checkKey (P:=P) (w:=w) g2 (show MapKept.IsKey (.int .i64) (.int .i64 a) from rfl) em d
  simp only [List.forIn_cons,Sem.run_bind,g1,ne_eq,not_false_eq_true,if_true,Result.andThen_ok,g3,p2,Sem.run_pure]
  exact ih (fun y hy=>each y (by simp [hy]))
theorem vecK_cases {k:TypeId} {n:Nat} (h:vecK P k=some n):vecS P k=some n\/vecN P k=some n:=by
 unfold vecK at h
 split at h
 ·rename_i hs; rw [hs]; exact .inl h
 ·exact .inr h
theorem nest_each {xs:Array Value} (w:World):∀ (fs:List Field) (i n:Nat) (la:List Int),nestF P i fs=some n->la.length=n->(∀ (j:Nat) (n:Int),la[j]?=some n->xs[i+j]?=some (.int .i64 n)) →
  ∀ f ∈ fs, f.name ≠ "_" ∧ ∀ em d, ∃ v, (part f.type xs f.offset).run P w = .ok v w ∧ (Instr.checkKey em (d + 2) f.type v).run P w = .ok () w
 | [],i,n,la,_,_,_=>fun f hf=>by cases hf
 | f::fs,i,n,la,hf,h1,hx=>by
  unfold nestF at hf
  split at hf
  ·rename_i m hm
   split at hf
   ·rename_i hc
    obtain ⟨hg,hz,ho,hnm⟩:=hc
    obtain ⟨n',hn',rfl⟩:=Option.map_eq_some_iff.1 hf
    intro g hg'
    rcases List.mem_cons.1 hg' with rfl | hg'
    ·refine ⟨hnm,fun em d=>⟨JO (la.take m),?_,run_checkKey_vec hm (by simp; omega) w em d⟩⟩
     have hp:(part g.type xs g.offset).run P w = .ok (.agg (xs.extract i (i+m))) w:=by
      have:=JJ (P:=P) hg hz w xs g.offset (.inr rfl)
      rw [ho] at this
      simpa [ho] using this
     rw [hp]
     unfold JO
     congr 2
     apply Array.ext_getElem?
     intro j
     by_cases hj:j<m
     ·have hl:j<la.length:=by omega
      have e1:=hx j la[j] (List.getElem?_eq_getElem hl)
      have hsz:=(Array.getElem?_eq_some_iff.1 e1).1
      rw [Array.getElem?_extract,if_pos (by omega),e1]
      have e2:(la.take m)[j]?=some la[j]:=by rw [List.getElem?_take,if_pos hj]; exact List.getElem?_eq_getElem hl
      exact (keyV_at j _ e2).symm
     ·rw [Array.getElem?_eq_none (by rw [Array.size_extract]; omega),Array.getElem?_eq_none (by simp only [List.size_toArray,List.length_map,List.length_take]; omega)]
    ·exact nest_each w fs (i+m) n' (la.drop m) hn' (by simp; omega) (fun j n hj=>by rw [List.getElem?_drop] at hj; rw [Nat.add_assoc]; exact hx _ n hj) g hg'
   ·cases hf
  ·split at hf
   ·rename_i hc
    obtain ⟨n',hn',rfl⟩:=Option.map_eq_some_iff.1 hf
    intro g hg'
    rcases List.mem_cons.1 hg' with rfl | hg'
    ·obtain ⟨a,la,rfl⟩:∃ a l,la=a::l:=by cases la with | nil=>simp at h1; omega | cons a l=>exact ⟨a,l,rfl⟩
     simp only [XH,Bool.and_eq_true,decide_eq_true_eq,Bool.not_eq_true',beq_eq_false_iff_ne] at hc
     obtain ⟨⟨⟨⟨g1,g2⟩,g3⟩,g4⟩,_⟩:=hc
     have hu:P.underlying g.type=some (.int .i64):=by
      revert g2
      split
      ·rename_i h; exact fun _=>h
      ·intro h; cases h
     exact ⟨g4,fun em d=>⟨_,run_part_plain (P:=P) (w:=w) g1 (xs:=xs) (off:=g.offset) (by rw [g3]; exact hx 0 a rfl),MapKept.run_checkKey (P:=P) (w:=w) hu (show MapKept.IsKey (.int .i64) (.int .i64 a) from rfl) em (d+1)⟩⟩
    ·exact nest_each w fs (i+1) n' (la.drop 1) hn' (by simp; omega) (fun j n hj=>by rw [List.getElem?_drop] at hj; rw [Nat.add_assoc]; exact hx _ n hj) g hg'
   ·cases hf
theorem run_checkKey_nest {k:TypeId} {n:Nat} (h:vecN P k=some n) {l:List Int} (hl:l.length=n) (w:World) (em:Bool) (d:Nat):(Instr.checkKey em (d+3) k (JO l)).run P w = .ok () w:=by
 unfold vecN at h
 split at h
 ·rename_i fs hu
  split at h
  ·unfold JO
   rw [show d+3=(d+2)+1 from rfl,Instr.checkKey]
   simp only [Sem.run_bind,run_underlying hu,Result.andThen_ok]
   rw [← Array.forIn_toList]
   have each:=nest_each (P:=P) (xs:=(l.map (Value.int .i64)).toArray) w fs.toList 0 n l h hl (fun j n hj=>by rw [Nat.zero_add]; exact keyV_at j n hj)
   generalize fs.toList=L at each
   induction L with
   | nil=>simp
   | cons f L ih =>
    obtain ⟨g1,g2⟩:=each f (by simp)
    obtain ⟨v,g3,p2⟩:=g2 em d
    simp only [List.forIn_cons,Sem.run_bind,g1,ne_eq,not_false_eq_true,if_true,Result.andThen_ok,g3,p2,Sem.run_pure]
    exact ih (fun y hy=>each y (by simp [hy]))
  ·cases h
 ·cases h
theorem run_checkKey_k {k:TypeId} {n:Nat} (h:vecK P k=some n) {l:List Int} (hl:l.length=n) (w:World) (em:Bool):(Instr.checkKey em 10000 k (JO l)).run P w = .ok () w :=
 (vecK_cases h).elim (fun h=>run_checkKey_vec h hl w em 9998) fun h=>run_checkKey_nest h hl w em 9997
theorem run_vecK {k:TypeId} {n:Nat} (h:vecK P k=some n) (w:World) {l q:List Int} (hl:l.length=n) (hq:q.length=n):(Op.equal k (JO l) (JO q)).run P w = .ok (decide (l=q)) w :=
 (vecK_cases h).elim (fun h=>run_vecS (P:=P) (d:=9998) h (C:=(l.map (Value.int .i64)).toArray) (D:=(q.map (Value.int .i64)).toArray) w hl hq keyV_at keyV_at)
  fun h=>(run_vecN (P:=P) (d:=9997) h (C:=(l.map (Value.int .i64)).toArray) (D:=(q.map (Value.int .i64)).toArray) w hl hq keyV_at keyV_at).2
theorem vecK_struct {k:TypeId} {n:Nat} (h:vecK P k=some n):∃ fs,P.underlying k=some (.struct fs):=(vecK_cases h).elim (fun h=>let ⟨fs,h,_⟩:=vecS_fields h; ⟨fs,h⟩) fun h=>by
 unfold vecN at h
 split at h
 ·rename_i fs hu; exact ⟨fs,hu⟩
 ·cases h
theorem run_findAsking_vec {k:TypeId} {n:Nat} (h:vecK P k=some n) {l:List Int} (hl:l.length=n) (w:World):∀ (es:List MapEntry) (ks:List (List Int)) (i:Nat),es.map (fun x=>x.key)=ks.map JO->(∀ q∈ks,q.length=n) →
  (l ∉ ks/\(Instr.findAsking k (JO l) es i).run P w = .ok none w)\/(l∈ks/\∃ j e,e∈es/\(Instr.findAsking k (JO l) es i).run P w = .ok (some (j,e.val)) w)
 | [],ks,i,he,_=>by
  obtain rfl:ks=[]:=by simpa using he.symm
  exact .inl ⟨by simp,by simp [Instr.findAsking]⟩
 | e::es,ks,i,he,hk=>by
  obtain ⟨q,ks,rfl⟩:∃ q r,ks=q::r:=by cases ks with | nil=>simp at he | cons q r=>exact ⟨q,r,rfl⟩
  simp only [List.map_cons,List.cons.injEq] at he
  obtain ⟨he1,he2⟩:=he
  have heq:(Op.equal k (JO l) e.key).run P w = .ok (decide (l=q)) w:=by
   rw [he1]
   exact run_vecK h w hl (hk q (by simp))
  by_cases hq:l=q
  ·refine .inr ⟨by simp [hq],i,e,by simp,?_⟩
   subst hq
   simp [Instr.findAsking,heq]
  ·rcases run_findAsking_vec h hl w es ks (i+1) he2 (fun x hx=>hk x (by simp [hx])) with ⟨g1,g2⟩ | ⟨g1,j,e',g2,g3⟩
   ·exact .inl ⟨by simp [hq,g1],by simp [Instr.findAsking,heq,hq,g2]⟩
   ·exact .inr ⟨by simp [g1],j,e',by simp [g2],by simp [Instr.findAsking,heq,hq,g3]⟩
theorem run_findKey_vec {k:TypeId} {n:Nat} (h:vecK P k=some n) {l:List Int} (hl:l.length=n) (w:World) (es:List MapEntry) (ks:List (List Int)) (he:es.map (fun x=>x.key)=ks.map JO) (hk:∀ q∈ks,q.length=n) :
  (l ∉ ks/\(Instr.findKey k (JO l) es).run P w = .ok none w)\/(l∈ks/\∃ j e,e∈es/\(Instr.findKey k (JO l) es).run P w = .ok (some (j,e.val)) w):=by
 obtain ⟨fs,hu⟩:=vecK_struct h
 cases es with
 | nil =>
  obtain rfl:ks=[]:=by simpa using he.symm
  exact .inl ⟨by simp,by simp [Instr.findKey,run_underlying hu,Instr.findNow]⟩
 | cons e es =>
  have e1:Instr.findNow (.struct fs) (JO l) (e::es) 0=none:=by simp [Instr.findNow,Instr.sameNow,JO]
  have e2:(Instr.findKey k (JO l) (e::es)).run P w=(Instr.findAsking k (JO l) (e::es)).run P w:=by
   simp [Instr.findKey,run_underlying hu,e1]
  rw [e2]
  exact run_findAsking_vec h hl w (e::es) ks 0 he hk
theorem agg_keyV {cs:List AV} {l:List Int} {c:Value} (h:VR w S ρ (.agg cs) c) (hl:Jg cs=some l):c=JO l:=by
 obtain ⟨e1,e2⟩:=intsL_spec (w:=w) (S:=S) (ρ:=ρ) hl
 obtain ⟨C,rfl,hn,hc⟩:∃ C,c = .agg C/\C.size=cs.length/\∀ (j:Nat) (n:Int),cs[j]?=some (.int .i64 n)->C.getD j undef = .int .i64 n:=by
  cases h with
  | cl h=>cases h with
   | agg _ C hn _ h=>exact ⟨C,rfl,hn,fun j n hj=>by have:=h j _ hj; generalize C.getD j undef=c at this; cases this; rfl⟩
  | agg _ C hn _ h=>exact ⟨C,rfl,hn,fun j n hj=>(h j _ hj).int_inv⟩
 unfold JO
 congr 1
 apply Array.ext_getElem?
 intro j
 by_cases hj:j<l.length
 ·have h1:l[j]?=some l[j]:=List.getElem?_eq_getElem hj
  rw [keyV_at j _ h1]
  have h2:=hc j _ (e2 j _ h1)
  have h3:j<C.size:=by rw [hn,← e1]; exact hj
  simp only [Array.getD,h3,dite_true] at h2
  rw [Array.getElem?_eq_getElem h3]
  exact congrArg some h2
 ·rw [Array.getElem?_eq_none (by rw [hn,← e1]; omega),Array.getElem?_eq_none (by simp; omega)]
theorem opt_mhas {t:TypeId} {m k:Operand} (ht:mapS P t=some nk) (hm:Qu m=some rm) (hk:Qu k=some rk) (ho:o.op = .lookup t m k false) {i:Nat} {cs:List AV} {l:List Int}
  (h1:Qe F rm=some (.mp i)) (h2:Qe F rk=some (.agg cs)) (hi:get H i=some (.mset ks)) (hl:Jg cs=some l) (hn:l.length=nk) (hks:∀ q∈ks,q.length=nk):OpT P o (rm.slots++rk.slots) F H [i] [] (.bool (decide (l∈ks))) H :=
 OpT.pure fun S ρ a w hF hH=>by
  obtain ⟨kt,et,inf,hu,hkt,hinf,hz⟩:=mapS_spec ht
  obtain ⟨b,z,cap,hρ,e1⟩:=(Qd hm hF (fun _ h=>by simp [h]) h1).mp_inv
  have e2:=agg_keyV (Qd hk hF (fun _ h=>by simp [h]) h2) hl
  obtain ⟨hs,es,clk,hb,hkeys,hvals⟩:=mset_inv hH (by simp) hi hρ
  have hck:∀ em,(Instr.checkKey em 10000 kt (JO l)).run P w = .ok () w:=fun em=>run_checkKey_k hkt hn w em
  rcases run_findKey_vec hkt hn w es.toList ks hkeys hks with ⟨g1,g2⟩ | ⟨g1,j,e,g2,g3⟩
  ·refine ⟨.bool false,?_,.cl (by rw [decide_eq_false g1]; exact .bool _)⟩
   simp [execOp,ho,e1,e2,Instr.lookup,run_underlying hu,MapKept.run_getObj_map hb,hck,g2,Result.andThen,zeroValue,typeInfo,hinf,hz]
  ·refine ⟨.bool true,?_,.cl (by rw [decide_eq_true g1]; exact .bool _)⟩
   have:=hvals e g2
   simp [execOp,ho,e1,e2,Instr.lookup,run_underlying hu,MapKept.run_getObj_map hb,hck,g3,Result.andThen,this]
theorem opt_mapadd {t:TypeId} {m k x:Operand} (ht:mapS P t=some nk) (hm:Qu m=some rm) (hk:Qu k=some rk) (hx:Qu x=some rx) (ho:o.op = .mapUpdate t m k x) {i:Nat} {cs:List AV} {l:List Int}
  (h1:Qe F rm=some (.mp i)) (h2:Qe F rk=some (.agg cs)) (h3:Qe F rx=some (.bool true)) (hi:get H i=some (.mset ks)) (hl:Jg cs=some l) (hn:l.length=nk) (hks:∀ q∈ks,q.length=nk) (hno:l ∉ ks):OpT P o (rm.slots++rk.slots++rx.slots) F H [] [i] .und ((i,.mset (ks++[l]))::H):=by
 obtain ⟨kt,et,inf,hu,hkt,hinf,hz⟩:=mapS_spec ht
 intro S ρ a w Q K hF hS hH _ hK
 obtain ⟨b,z,cap,hρ,e1⟩:=(Qd hm hF (fun _ h=>by simp [h]) h1).mp_inv
 have e2:=agg_keyV (Qd hk hF (fun _ h=>by simp [h]) h2) hl
 have e3:=(Qd hx hF (fun _ h=>by simp [h]) h3).bool_inv
 obtain ⟨hs,es,clk,hb,hkeys,hvals⟩:=mset_inv hH (by simp) hi hρ
 have hck:∀ em,(Instr.checkKey em 10000 kt (JO l)).run P w = .ok () w:=fun em=>run_checkKey_k hkt hn w em
 obtain ⟨hset,hoth⟩:=MapKept.heap_set (o':=.map (es.push { key:=JO l,val:=.bool true,born:=clk }) (clk+1)) hb
 refine .inl ?_
 unfold Oper.wp
 have hr:(execOp a.eval o).run P w = .ok .skip { w with heap:=w.heap.setIfInBounds b (.map (es.push { key:=JO l,val:=.bool true,born:=clk }) (clk+1)) }:=by
  rcases run_findKey_vec hkt hn w es.toList ks hkeys hks with ⟨g1,g2⟩ | ⟨g1,_⟩
  ·simp [execOp,ho,e1,e2,e3,Instr.mapUpdate,run_underlying hu,MapKept.run_getObj_map hb,hck,g2,MapKept.run_setObj_map _ hb]
  ·exact absurd g1 hno
 rw [hr]
 have hsz:({ w with heap:=w.heap.setIfInBounds b (.map (es.push { key:=JO l,val:=.bool true,born:=clk }) (clk+1)) }:World).heap.size=w.heap.size:=by simp
 have hgeti:get ((i,Ob.mset (ks++[l]))::H) i=some (.mset (ks++[l])):=by simp [get]
 have live_i:Jb ρ H (fun k=>k∈[]\/k∈[i]) b:=⟨i,_,z,cap,by simp,hi,rfl,hρ⟩
 refine hK undef _ S ρ (.cl .und) ⟨fun q ob hq hg=>?_,fun q l oq ol b' z' z'' c' c'' hq hl hne=>?_⟩
  ⟨⟨rfl,rfl,rfl,by rw [hsz]; exact Nat.le_refl _,fun q hq hn=>hoth q (fun e=>by subst e; exact hn live_i)⟩,fun _ h=>h,fun _ h=>.inl h,fun b' hb'=>by rw [hsz]; exact hS b' hb',fun b' hb'=>?_,fun _ _=>rfl⟩
 ·have hqi:q=i:=by simpa using hq
  subst hqi
  rw [hgeti] at hg
  injection hg with hg; subst hg
  refine ⟨some b,z,cap,hρ,b,_,_,rfl,hs,hset,?_,?_⟩
  ·rw [Array.toList_push,List.map_append,List.map_append,hkeys]; rfl
  ·intro x hx
   rw [Array.toList_push] at hx
   rcases List.mem_append.1 hx with hx | hx
   ·exact hvals x hx
   ·rw [List.mem_singleton.1 hx]
 ·have q1:q=i:=by simpa using hq
  have q2:l=i:=by simpa using hl
  exact absurd (q1.trans q2.symm) hne
 ·obtain ⟨q,ob,z',cap',hq,hg,hl,hrq⟩:=hb'
  have hqi:q=i:=by simpa using hq
  subst hqi
  exact .inl ⟨q,_,z',cap',hq,hi,rfl,hrq⟩
end
end Go.Proofs.YthmbjgnjfjjibaaGreatDoor
namespace Go.Proofs.YthmbjgnjfjjibaaGreatDoor
open Go.RowKit
set_option maxRecDepth 100000
variable {rd:List Nat}
variable {dst src:TypeId}
variable {ri:Arg}
variable {neg:Bool}
variable {rx ry:Arg} {yt:TypeId}
variable {r:Arg}
variable {S:Nat->Prop} {ρ:Rho} {w:World}
section
variable {P:Program} {o:Oper} {F:List (Nat×AV)} {H:List (Nat×Ob)}
theorem VR.str_inv' {c:Value} {s:ByteArray} (h:VR w S ρ (.str s) c):c = .string s:=by
 cases h with
 | cl h=>cases h; rfl
theorem isU8T_spec {t:TypeId} (h:isU8T P t=true):P.underlying t=some (.int .u8):=by
 unfold isU8T at h
 split at h
 ·rename_i h1; exact h1
 ·cases h
theorem opt_slen {t:TypeId} {x:Operand} (ht:P.underlying t=some .string) (hx:Qu x=some r) (ho:o.op = .call { callee:=.builtin .len,args := #[x],argTypes := #[t] }) {s:ByteArray} (hv:Qe F r=some (.str s)):OpT P o r.slots F H [] [] (.int .i64 s.size) H :=
 OpT.pure fun S ρ a w hF _=>by
  have e:=(Qd hx hF (fun _ h=>h) hv).str_inv'
  exact ⟨.int .i64 s.size,by simp [execOp,ho,e,resolve,invoke,builtin,Builtin.len_,run_underlying ht,goInt],.cl (.int _ _)⟩
theorem opt_scat {t:TypeId} {x y:Operand} (hx:Qu x=some rx) (hy:Qu y=some ry) (ho:o.op = .binOp .add t x y yt) {s u:ByteArray} (h1:Qe F rx=some (.str s)) (h2:Qe F ry=some (.str u)) (hs:s.size+u.size<=9223372036854775807) :
  OpT P o (rx.slots++ry.slots) F H [] [] (.str (s++u)) H :=
 OpT.pure fun S ρ a w hF _=>by
  have e1:=(Qd hx hF (fun _ h=>by simp [h]) h1).str_inv'
  have e2:=(Qd hy hF (fun _ h=>by simp [h]) h2).str_inv'
  have hq:=run_string_add_sum (P:=P) w s u hs
  exact ⟨.string (s++u),by simp [execOp,ho,e1,e2,eqGuard_at_string,binOp_string_add,hq],.cl (.str _)⟩
theorem opt_seq {t:TypeId} {x y:Operand} (hx:Qu x=some rx) (hy:Qu y=some ry) (ho:o.op = .binOp (if neg=true then .neq else .eql) t x y yt) {s u:ByteArray} (h1:Qe F rx=some (.str s)) (h2:Qe F ry=some (.str u)) :
  OpT P o (rx.slots++ry.slots) F H [] [] (.bool (neg != (s.toList == u.toList))) H :=
 OpT.pure fun S ρ a w hF _=>by
  have e1:=(Qd hx hF (fun _ h=>by simp [h]) h1).str_inv'
  have e2:=(Qd hy hF (fun _ h=>by simp [h]) h2).str_inv'
  refine ⟨.bool (neg != (s.toList == u.toList)),?_,.cl (.bool _)⟩
  cases neg
  ·simp [execOp,ho,e1,e2,eqGuard_at_string,binOp_string_eql]
  ·simp [execOp,ho,e1,e2,eqGuard_at_string,binOp_string_neq]
theorem opt_stake {t:TypeId} {x i:Operand} (ht:P.underlying t=some .string) (hx:Qu x=some rx) (hi:Qu i=some ri) (ho:o.op = .slice t x none (some i) none) {s:ByteArray} {k:IntKind} {n:Int} (h1:Qe F rx=some (.str s)) (h2:Qe F ri=some (.int k n)) (h0:0<=n) (hn:n<=s.size) :
  OpT P o (rx.slots++ri.slots) F H [] [] (.str (s.extract 0 n.toNat)) H :=
 OpT.pure fun S ρ a w hF _=>by
  have e1:=(Qd hx hF (fun _ h=>by simp [h]) h1).str_inv'
  have e2:=(Qd hi hF (fun _ h=>by simp [h]) h2).int_inv
  have hq:=run_slice_string_to_if (P:=P) w t s k n ht
  rw [if_pos ⟨h0,hn⟩] at hq
  exact ⟨_,by simp [execOp,ho,e1,e2,run_sliceAt_string w t _ _ _ _ ht,hq],.cl (.str _)⟩
theorem opt_sdrop {t:TypeId} {x i:Operand} (ht:P.underlying t=some .string) (hx:Qu x=some rx) (hi:Qu i=some ri) (ho:o.op = .slice t x (some i) none none) {s:ByteArray} {k:IntKind} {n:Int} (h1:Qe F rx=some (.str s)) (h2:Qe F ri=some (.int k n)) (h0:0<=n) (hn:n<=s.size) :
  OpT P o (rx.slots++ri.slots) F H [] [] (.str (s.extract n.toNat s.size)) H :=
 OpT.pure fun S ρ a w hF _=>by
  have e1:=(Qd hx hF (fun _ h=>by simp [h]) h1).str_inv'
  have e2:=(Qd hi hF (fun _ h=>by simp [h]) h2).int_inv
  have hq:=run_slice_string_from_if (P:=P) w t s k n ht
  rw [if_pos ⟨h0,hn⟩] at hq
  exact ⟨_,by simp [execOp,ho,e1,e2,run_sliceAt_string w t _ _ _ _ ht,hq],.cl (.str _)⟩
theorem opt_sidx {t:TypeId} {x i:Operand} (ht:P.underlying t=some .string) (hx:Qu x=some rx) (hi:Qu i=some ri) (ho:o.op = .index t x i) {s:ByteArray} {k:IntKind} {n:Int} {b:UInt8} (h1:Qe F rx=some (.str s)) (h2:Qe F ri=some (.int k n)) (h0:0<=n) (hb:s.toList[n.toNat]?=some b) :
  OpT P o (rx.slots++ri.slots) F H [] [] (.int .u8 b.toNat) H :=
 OpT.pure fun S ρ a w hF _=>by
  have e1:=(Qd hx hF (fun _ h=>by simp [h]) h1).str_inv'
  have e2:=(Qd hi hF (fun _ h=>by simp [h]) h2).int_inv
  have hq:=run_index_string (P:=P) w t s k n ht
  have hl:n.toNat<s.size:=by
   have:=(List.getElem?_eq_some_iff.1 hb).1
   rw [ByteArray.toList_eq] at this
   simpa using this
  have hbe:s[n.toNat]'hl=b:=by
   have h3:=(List.getElem?_eq_some_iff.1 hb).2
   simp only [ByteArray.toList_eq] at h3
   simpa [ByteArray.getElem_eq_getElem_data] using h3
  rw [dif_pos (show 0<=n/\n<s.size by omega),hbe] at hq
  exact ⟨_,by simp [execOp,ho,e1,e2,hq],.cl (.int _ _)⟩
theorem rowS_at {s:ByteArray} {j:Nat} {el:List AV} (h:(rowS s)[j]?=some el):∃ b,s.data.toList[j]?=some b/\el=[.int .u8 b.toNat]:=by
 unfold rowS at h
 rw [ByteArray.toList_eq,List.getElem?_map] at h
 cases hb:s.data.toList[j]? with
 | none=>rw [hb] at h; cases h
 | some b=>rw [hb] at h; injection h with h; exact ⟨b,rfl,h.symm⟩
theorem rowS_len (s:ByteArray):(rowS s).length=s.size:=by unfold rowS; rw [ByteArray.toList_eq]; simp
theorem opt_s2b {e:TypeId} {x:Operand} (hs:P.underlying src=some .string) (hd:P.underlying dst=some (.slice e)) (he:P.underlying e=some (.int .u8)) (hx:Qu x=some r) (ho:o.op = .convert src dst x) {s:ByteArray} (hv:Qe F r=some (.str s)) :
  OpT P o r.slots F H [] [] (.rs 1 (rowS s)) H:=by
 intro S ρ a w Q K hF hS hH hnew hK
 have e1:=(Qd hx hF (fun _ h=>h) hv).str_inv'
 have hrun:=run_bytes_of_string (P:=P) w src dst e s hs hd he
 have hcap:=grownCap_ge w s.size 0 e
 generalize grownCap w s.size 0 e=cap at hrun hcap
 generalize hC:bytesRow s cap=C at hrun
 generalize hw:w.drew.alloc (.cells C e (C.size,C.size+1))=w' at hrun
 have hkeep:Keep w w' (Jb ρ H fun i=>i∈([]:List Nat)\/i∈([]:List Nat)):=by
  subst hw
  exact ⟨rfl,rfl,rfl,by simp,fun k hk _=>Below.heap_alloc w.drew _ k hk⟩
 have hblk:w'.heap[w.heap.size]?=some (.cells C e (C.size,C.size+1)):=by
  subst hw
  exact heap_alloc_new w.drew _
 have hsz:w'.heap.size=w.heap.size+1:=by subst hw; simp
 refine .inl ?_
 unfold Oper.wp
 rw [show (execOp a.eval o).run P w = .ok (.value (.slice (some ⟨w.heap.size,0,none⟩) s.size cap)) w' by simp [execOp,ho,e1,hrun]]
 have hcell:∀ (a:Addr) (c:Value),S a.block->w.cell? a=some c->w'.cell? a=some c:=fun a c hs hc =>
  hkeep.cell (fun ⟨i,ob,z,cap,hi,_⟩=>by simp at hi) hc
 refine hK _ w' (fun b=>S b\/b=w.heap.size) ρ (.cl ?_) ⟨fun i ob hi=>by simp at hi,fun i j oi oj b z1 z2 c1 c2 hi=>by simp at hi⟩ ⟨hkeep,fun b hb=>.inl hb,fun b hb=>?_,fun b hb=>?_,fun b hb=>?_,fun i _=>rfl⟩
 ·rw [← rowS_len s]
  have hat:∀ (j:Nat) (b:UInt8),s.data.toList[j]?=some b->w'.cell? ⟨w.heap.size,0+j*1+0,none⟩=some (.int .u8 b.toNat):=fun j b hj=>by
   have hjl:j<s.data.size:=by simpa using (List.getElem?_eq_some_iff.1 hj).1
   have hCj:C[j]?=some (.int .u8 b.toNat):=by
    rw [← hC]
    unfold bytesRow
    rw [Array.getElem?_append_left (by simpa using hjl),Array.getElem?_map]
    have:s.data[j]?=some b:=by simpa using hj
    rw [this]; rfl
   simp only [Nat.zero_add,Nat.mul_one,Nat.add_zero]
   rw [cell_of_row w' w.heap.size j C e _ hblk]; exact hCj
  refine .rs 1 (rowS s) w.heap.size 0 cap (fun j _=>.int .u8 ((s.data.toList.getD j 0).toNat)) (.inr rfl) (by rw [rowS_len]; exact hcap) (fun j el k v hj hk=>?_) (fun j el k v hj hk=>?_)
  ·obtain ⟨b,hb,rfl⟩:=rowS_at hj
   have hk0:k=0:=by
    have:=(List.getElem?_eq_some_iff.1 hk).1
    simpa using this
   subst hk0
   rw [List.getD_eq_getElem?_getD,hb]
   exact ⟨hat j b hb,rfl⟩
  ·obtain ⟨b,hb,rfl⟩:=rowS_at hj
   have hk0:k=0:=by
    have:=(List.getElem?_eq_some_iff.1 hk).1
    simpa using this
   subst hk0
   rw [List.getD_eq_getElem?_getD,hb]
   simp at hk
   subst hk
   exact .int _ _
 ·rcases hb with hb | rfl
  ·exact .inl hb
  ·exact .inr (.inr (Nat.le_refl _))
 ·rcases hb with hb | rfl
  ·have:=hS b hb; omega
  ·omega
 ·obtain ⟨i,ob,z,c,hi,_⟩:=hb
  simp at hi
theorem byteE_spec:∀ {els:List (List AV)} {l:List Int},byteE els=some l->els.length=l.length/\∀ (j:Nat) (n:Int),l[j]?=some n->els[j]?=some [.int .u8 n]
 | [],l,h=>by simp [byteE] at h; subst h; exact ⟨rfl,fun j n h=>by simp at h⟩
 | el::els,l,h=>by
  unfold byteE at h
  split at h
  ·rename_i heq; cases heq
  ·rename_i n r he
   injection he with h1 h2; subst h1 h2
   cases hl:byteE els with
   | none=>rw [hl] at h; cases h
   | some l' =>
    rw [hl] at h
    injection h with h; subst h
    obtain ⟨g1,g2⟩:=byteE_spec hl
    refine ⟨by simp [g1],fun j m hj=>?_⟩
    cases j with
    | zero=>simp at hj; subst hj; rfl
    | succ j=>simpa using g2 j m (by simpa using hj)
  ·cases h
theorem bytesL_spec:∀ {els:List AV} {l:List Int},bytesL els=some l->els.length=l.length/\∀ (j:Nat) (n:Int),l[j]?=some n->els[j]?=some (.int .u8 n)
 | [],l,h=>by simp [bytesL] at h; subst h; exact ⟨rfl,fun j n h=>by simp at h⟩
 | v::els,l,h=>by
  unfold bytesL at h
  split at h
  ·rename_i heq; cases heq
  ·rename_i n r he
   injection he with h1 h2; subst h1 h2
   cases hl:bytesL els with
   | none=>rw [hl] at h; cases h
   | some l' =>
    rw [hl] at h
    injection h with h; subst h
    obtain ⟨g1,g2⟩:=bytesL_spec hl
    refine ⟨by simp [g1],fun j m hj=>?_⟩
    cases j with
    | zero=>simp at hj; subst hj; rfl
    | succ j=>simpa using g2 j m (by simpa using hj)
  ·cases h
theorem bytesV_ok {v:AV} {c:Value} {l:List Int} {I:Nat->Prop} (hb:bytesV H v=some (rd,l)) (hv:VR w S ρ v c) (hH:HRi I w S ρ H) (hI:∀ i,i∈rd->I i) :
  (l=[]/\∃ A cap,c = .slice A 0 cap)\/∃ b off cap,c = .slice (some ⟨b,off,none⟩) l.length cap/\∀ i,i<l.length->w.cell? ⟨b,off+i,none⟩=some (.int .u8 (l.getD i 0)):=by
 have getD_:∀ {i:Nat},i<l.length->l[i]?=some (l.getD i 0):=fun {i} hi=>by rw [List.getD_eq_getElem?_getD,List.getElem?_eq_getElem hi]; rfl
 unfold bytesV at hb
 split at hb
 ·injection hb with hb
  injection hb with h1 h2
  subst h1 h2
  cases hv with
  | cl h=>cases h; exact .inl ⟨rfl,_,_,rfl⟩
 ·rename_i els
  cases hl:byteE els with
  | none=>rw [hl] at hb; cases hb
  | some l' =>
   rw [hl] at hb
   injection hb with hb
   injection hb with h1 h2
   subst h1 h2
   obtain ⟨g1,g2⟩:=byteE_spec hl
   rcases hv.rs_inv with ⟨rfl,a,cap,rfl⟩ | ⟨b,off,cap,cf,rfl,_,_,q1,q2⟩
   ·exact .inl ⟨List.eq_nil_of_length_eq_zero (by rw [← g1]; rfl),_,_,rfl⟩
   ·refine .inr ⟨b,off,cap,by rw [g1],fun i hi=>?_⟩
    have:=q1 i _ 0 _ (g2 i _ (getD_ hi)) rfl
    have e:=q2 i _ 0 _ (g2 i _ (getD_ hi)) rfl
    generalize cf i 0=cc at this e
    cases e
    rw [Nat.mul_one,Nat.add_zero] at this
    exact this.1
 ·rename_i i j n
  split at hb
  ·rename_i e els fl hg
   split at hb
   ·rename_i hjn
    cases hl:byteE ((els.drop j).take n) with
    | none=>rw [hl] at hb; cases hb
    | some l' =>
     rw [hl] at hb
     injection hb with hb
     injection hb with h1 h2
     subst h1 h2
     obtain ⟨g1,g2⟩:=byteE_spec hl
     have hln:l'.length=n:=by rw [← g1,List.length_take,List.length_drop]; omega
     rcases hv.sl_inv with ⟨b,z,cap,cap',hρ,hc,hnc,rfl⟩ | ⟨z,hρ,rfl,rfl,rfl⟩
     ·obtain ⟨rfl,_,_,C,_,_,_,_,hcl⟩:=Xz hH (hI i (by simp)) hg hρ
      refine .inr ⟨b,j*1,cap',by rw [hln],fun k hk=>?_⟩
      have h3:=g2 k _ (getD_ hk)
      rw [List.getElem?_take,if_pos (by omega),List.getElem?_drop] at h3
      obtain ⟨q1,_,q3⟩:=hcl (j+k) _ 0 _ h3 rfl
      rw [q3.int_inv] at q1
      rw [show j*1+k=(j+k)*1+0 by omega]
      exact q1
     ·exact .inl ⟨List.eq_nil_of_length_eq_zero hln,_,_,rfl⟩
   ·cases hb
  ·cases hb
 ·rename_i i j o' n
  split at hb
  ·rename_i e z els fl hg
   split at hb
   ·rename_i el hj
    split at hb
    ·rename_i hon
     cases hl:bytesL ((el.drop o').take n) with
     | none=>rw [hl] at hb; cases hb
     | some l' =>
      rw [hl] at hb
      injection hb with hb
      injection hb with h1 h2
      subst h1 h2
      obtain ⟨g1,g2⟩:=bytesL_spec hl
      have hln:l'.length=n:=by rw [← g1,List.length_take,List.length_drop]; omega
      obtain ⟨b,z',cap,cap',hρ,hnc,rfl⟩:=hv.sa_inv
      obtain ⟨rfl,_,_,C,_,_,_,_,hcl⟩:=Xz hH (hI i (by simp)) hg hρ
      refine .inr ⟨b,j*z+o',cap',by rw [hln],fun k hk=>?_⟩
      have h3:=g2 k _ (getD_ hk)
      rw [List.getElem?_take,if_pos (by omega),List.getElem?_drop] at h3
      obtain ⟨q1,_,q3⟩:=hcl j _ (o'+k) _ hj h3
      rw [q3.int_inv] at q1
      rw [Nat.add_assoc]
      exact q1
    ·cases hb
   ·cases hb
  ·cases hb
 ·cases hb
theorem opt_b2s {e:TypeId} {x:Operand} (hs:P.underlying src=some (.slice e)) (hd:P.underlying dst=some .string) (he:P.underlying e=some (.int .u8)) (hx:Qu x=some r) (ho:o.op = .convert src dst x) {v:AV} {l:List Int} (hv:Qe F r=some v) (hb:bytesV H v=some (rd,l)) :
  OpT P o r.slots F H rd [] (.str (strN l)) H :=
 OpT.pure fun S ρ a w hF hH=>by
  have e1:=Qd hx hF (fun _ h=>h) hv
  refine ⟨.string (strN l),?_,.cl (.str _)⟩
  rcases bytesV_ok hb e1 hH (fun i h=>h) with ⟨rfl,A,cap,hc⟩ | ⟨b,off,cap,hc,hcell⟩
  ·cases A with
   | none=>simp [execOp,ho,hc,run_convert_bytes_nil w src e hs he _ _ dst hd]; rfl
   | some q =>
    have:(convert src dst (.slice (some q) 0 cap)).run P w = .ok (.string (strN [])) w:=by
     rw [run_convert_bytes_string w src dst e _ 0 cap hs he hd,run_bytesToString w q 0 cap [] (by simp [loadCells,loadCellsFrom])]
     rfl
    simp [execOp,ho,hc,this]
  ·have:=run_convert_bytes_arg (P:=P) w src e hs he b off l.length cap l rfl hcell dst hd
   simp [execOp,ho,hc,this]
   rfl
def scV:Sc->Value->Prop
 | .i n,c=>c = .int .i64 n
 | .b x,c=>c = .bool x
 | .s l,c=>∃ t:ByteArray,c = .string t/\t.toList=l
theorem scL_spec {w:World} {S:Nat->Prop} {ρ:Rho}:∀ {as:List AV} {la:List Sc},scL as=some la->la.length=as.length/\∀ (j:Nat) (x:Sc) (c:Value),la[j]?=some x->(∀ v,as[j]?=some v->VR w S ρ v c)->scV x c
 | [],la,h=>by simp [scL] at h; subst h; exact ⟨rfl,fun j n c h=>by simp at h⟩
 | v::as,la,h=>by
  have step:∀ (y:Sc),(scL as).map (y :: ·)=some la->(∀ c,VR w S ρ v c->scV y c)->la.length=(v::as).length/\∀ (j:Nat) (x:Sc) (c:Value),la[j]?=some x->(∀ u,(v::as)[j]?=some u->VR w S ρ u c)->scV x c:=fun y hm hy=>by
   cases hl:scL as with
   | none=>rw [hl] at hm; cases hm
   | some l =>
    rw [hl] at hm
    injection hm with hm; subst hm
    obtain ⟨g1,g2⟩:=scL_spec (w:=w) (S:=S) (ρ:=ρ) hl
    refine ⟨by simp [g1],fun j x c hj hc=>?_⟩
    cases j with
    | zero=>simp at hj; subst hj; exact hy c (hc v rfl)
    | succ j=>exact g2 j x c (by simpa using hj) (fun u hu=>hc u (by simpa using hu))
  unfold scL at h
  split at h
  ·rename_i heq; cases heq
  ·rename_i n l heq
   injection heq with h1 h2; subst h1 h2
   exact step _ h fun c hc=>hc.int_inv
  ·rename_i b l heq
   injection heq with h1 h2; subst h1 h2
   exact step _ h fun c hc=>hc.bool_inv
  ·rename_i s l heq
   injection heq with h1 h2; subst h1 h2
   exact step _ h fun c hc=>⟨s,hc.str_inv',rfl⟩
  ·cases h
theorem run_scFields {d:Nat} {xs ys:Array Value} (w:World):∀ (fs:List Field) (i:Nat) (la lb:List Sc),scFields P i fs=true->la.length=fs.length->lb.length=fs.length →
  (∀ (j:Nat) (x:Sc),la[j]?=some x->∃ c,xs[i+j]?=some c/\scV x c)->(∀ (j:Nat) (x:Sc),lb[j]?=some x->∃ c,ys[i+j]?=some c/\scV x c) →
  (∀ (j:Nat) (x y:Sc) (f:Field),la[j]?=some x->lb[j]?=some y->fs[j]?=some f->(∃ n m,x = .i n/\y = .i m/\P.underlying f.type=some (.int .i64))\/(∃ a b,x = .b a/\y = .b b/\P.underlying f.type=some .bool)\/(∃ a b,x = .s a/\y = .s b/\P.underlying f.type=some .string)) →
  (Op.eqFields (d+1) xs ys fs).run P w = .ok (decide (la=lb)) w
 | [],i,la,lb,_,h1,h2,_,_,_=>by
  obtain rfl:=List.eq_nil_of_length_eq_zero h1
  obtain rfl:=List.eq_nil_of_length_eq_zero h2
  simp [Op.eqFields]
 | f::fs,i,la,lb,hf,h1,h2,hx,hy,hk=>by
  obtain ⟨a,la,rfl⟩:∃ a l,la=a::l:=by cases la with | nil=>cases h1 | cons a l=>exact ⟨a,l,rfl⟩
  obtain ⟨b,lb,rfl⟩:∃ b l,lb=b::l:=by cases lb with | nil=>cases h2 | cons a l=>exact ⟨a,l,rfl⟩
  simp only [scFields,Bool.and_eq_true,decide_eq_true_eq,Bool.not_eq_true',beq_eq_false_iff_ne] at hf
  obtain ⟨⟨⟨⟨g1,g2⟩,g3⟩,g4⟩,g5⟩:=hf
  obtain ⟨ca,hca,va⟩:=hx 0 a rfl
  obtain ⟨cb,hcb,vb⟩:=hy 0 b rfl
  have p1:=run_part_plain (P:=P) (w:=w) g1 (xs:=xs) (off:=f.offset) (by rw [g3]; exact hca)
  have p2:=run_part_plain (P:=P) (w:=w) g1 (xs:=ys) (off:=f.offset) (by rw [g3]; exact hcb)
  have ih:=run_scFields (d:=d) (xs:=xs) (ys:=ys) w fs (i+1) la lb g5 (by simpa using h1) (by simpa using h2)
   (fun j n hj=>by rw [Nat.add_assoc,Nat.add_comm 1 j]; exact hx (j+1) n (by simpa using hj)) (fun j n hj=>by rw [Nat.add_assoc,Nat.add_comm 1 j]; exact hy (j+1) n (by simpa using hj))
   (fun j x y f' hj1 hj2 hj3=>hk (j+1) x y f' (by simpa using hj1) (by simpa using hj2) (by simpa using hj3))
  have eq_:(Op.equalIn (d+1) f.type ca cb).run P w = .ok (decide (a=b)) w:=by
   rcases hk 0 a b f rfl rfl rfl with ⟨n,m,rfl,rfl,hu⟩ | ⟨n,m,rfl,rfl,hu⟩ | ⟨n,m,rfl,rfl,hu⟩
   ·simp only [scV] at va vb
    subst va vb
    rw [run_equalIn_int w d f.type .i64 .i64 n m hu]
    congr 1
    by_cases e:n=m <;> simp [e]
   ·simp only [scV] at va vb
    subst va vb
    rw [run_equalIn_bool w d f.type n m hu]
    congr 1
    by_cases e:n=m <;> simp [e]
   ·simp only [scV] at va vb
    obtain ⟨t1,rfl,e1⟩:=va
    obtain ⟨t2,rfl,e2⟩:=vb
    rw [run_equalIn_string w d f.type t1 t2 hu,e1,e2]
    congr 1
    by_cases e:n=m <;> simp [e]
  simp only [Op.eqFields,if_pos g4,Sem.run_bind,p1,p2,Result.andThen_ok,eq_,Sem.run_ite]
  by_cases q:a=b
  ·subst q
   simp only [decide_true,Bool.not_true,Bool.false_eq_true,if_false,ih]
   simp
  ·simp [q]
theorem scKinds_at:∀ {fs:List Field} {i:Nat} {ks:List Nat},scFields P i fs=true->kindsF P fs=ks->∀ (j:Nat) (f:Field) (k:Nat),fs[j]?=some f->ks[j]?=some k->(k=0/\P.underlying f.type=some (.int .i64))\/(k=1/\P.underlying f.type=some .bool)\/(k=2/\P.underlying f.type=some .string)
 | [],i,ks,_,hk,j,f,k,hf,_=>by simp at hf
 | g::fs,i,ks,h,hk,j,f,k,hf,hj=>by
  subst hk
  simp only [scFields,Bool.and_eq_true] at h
  obtain ⟨⟨⟨⟨_,g2⟩,_⟩,_⟩,g5⟩:=h
  cases j with
  | zero =>
   simp at hf; subst hf
   simp only [kindsF,List.map_cons,List.getElem?_cons_zero,Option.some.injEq] at hj
   revert g2 hj
   cases hu:P.underlying g.type with
   | none=>intro g2; simp at g2
   | some d =>
    cases d with
    | int kk=>cases kk <;> simp_all [kindT]
    | bool=>simp_all [kindT]
    | string=>simp_all [kindT]
    | _=>intro g2; simp at g2
  | succ j=>exact scKinds_at g5 rfl j f k (by simpa using hf) (by simpa [kindsF] using hj)
theorem scK_at {x:Sc}:∀ {la:List Sc} {j:Nat},la[j]?=some x->(scK la)[j]?=some (scK1 x):=fun {la j} h=>by unfold scK; rw [List.getElem?_map,h]; rfl
theorem opt_aeqx {ks:List Nat} {t:TypeId} {x y:Operand} (ht:scT P t=some ks) (hx:Qu x=some rx) (hy:Qu y=some ry) (ho:o.op = .binOp (if neg=true then .neq else .eql) t x y yt) {as bs:List AV} {la lb:List Sc}
  (h1:Qe F rx=some (.agg as)) (h2:Qe F ry=some (.agg bs)) (ha:scL as=some la) (hb:scL bs=some lb) (hla:scK la=ks) (hlb:scK lb=ks):OpT P o (rx.slots++ry.slots) F H [] [] (.bool (neg != decide (la=lb))) H :=
 OpT.pure fun S ρ ac w hF _=>by
  obtain ⟨C,e1,c1,_,c2⟩:=(Qd hx hF (fun _ h=>by simp [h]) h1).agg_inv
  obtain ⟨D,e2,d1,_,d2⟩:=(Qd hy hF (fun _ h=>by simp [h]) h2).agg_inv
  obtain ⟨i1,i2⟩:=scL_spec (w:=w) (S:=S) (ρ:=ρ) ha
  obtain ⟨j1,j2⟩:=scL_spec (w:=w) (S:=S) (ρ:=ρ) hb
  have cell:∀ {C:Array Value} {as:List AV} {la:List Sc},C.size=as.length->(∀ j v,as[j]?=some v->VR w S ρ v (C.getD j undef))->la.length=as.length->(∀ (j:Nat) (x:Sc) (c:Value),la[j]?=some x->(∀ v,as[j]?=some v->VR w S ρ v c)->scV x c) →
    ∀ (j:Nat) (x:Sc),la[j]?=some x->∃ c,C[0+j]?=some c/\scV x c:=fun {C as la} hs h hl hg j x hj=>by
   have hlt:j<C.size:=by rw [hs,← hl]; exact (List.getElem?_eq_some_iff.1 hj).1
   refine ⟨C.getD j undef,by rw [Nat.zero_add,Array.getD_eq_getD_getElem?,Array.getElem?_eq_getElem hlt]; rfl,hg j x _ hj (fun v hv=>h j v hv)⟩
  unfold scT at ht
  split at ht
  ·rename_i fs hu
   split at ht
   ·rename_i hcond
    obtain ⟨k1,k2,k3⟩:=hcond
    injection ht with ht
    have hfs:P.fieldsOf t=fs:=by simp [Program.fieldsOf,hu]
    have hln:ks.length=fs.toList.length:=by rw [← ht]; simp [kindsF]
    have q:=run_scFields (P:=P) (d:=9998) (xs:=C) (ys:=D) w fs.toList 0 la lb k1 (by rw [← hln,← hla]; simp [scK]) (by rw [← hln,← hlb]; simp [scK]) (cell c1 c2 i1 i2) (cell d1 d2 j1 j2)
     (fun j x y f hj1 hj2 hj3=>by
      have a1:=scK_at hj1
      have a2:=scK_at hj2
      rw [hla] at a1
      rw [hlb] at a2
      have e:=Option.some.inj (a1.symm.trans a2)
      have b:=scKinds_at k1 ht j f _ hj3 a1
      cases x <;> cases y <;> simp_all [scK1])
    have heq:(Op.equalIn 10000 t (.agg C) (.agg D)).run P w = .ok (decide (la=lb)) w:=by
     rw [run_equalIn_struct w 9999 t C D (by rw [hfs]; exact hu) k2,hfs]; exact q
    refine ⟨.bool (neg != decide (la=lb)),?_,.cl (.bool _)⟩
    cases neg
    ·simp [execOp,ho,e1,e2,run_eqGuard_agg w _ t x y C D k3,run_eql_struct,heq]
    ·simp [execOp,ho,e1,e2,run_eqGuard_agg w _ t x y C D k3,run_neq_struct,heq]
   ·cases ht
  ·cases ht
end
end Go.Proofs.YthmbjgnjfjjibaaGreatDoor
namespace Go.Proofs.YthmbjgnjfjjibaaGreatDoor
open Go.RowKit
set_option maxRecDepth 100000
section
variable {P:Program} {o:Oper} {F:List (Nat×AV)} {H:List (Nat×Ob)} {d:Nat} {K:AV->List Nat->List Nat->List (Nat×Ob)->Prop}
theorem map_some {α β:Type} {f:α->β} {x:Option α} {y:β} (h:x.map f=some y):∃ a,x=some a/\f a=y:=by
 cases x with
 | none=>cases h
 | some a=>exact ⟨a,rfl,by injection h⟩
theorem args_one {c:Call} {b:Builtin} (hc:c.callee = .builtin b) {x:Operand} {t:TypeId} (h1:c.args.toList=[x]) (h2:c.argTypes.toList=[t]):c={ callee:=.builtin b,args := #[x],argTypes := #[t] }:=by
 obtain ⟨callee,⟨args⟩,⟨ats⟩⟩:=c
 simp at hc h1 h2
 subst hc h1 h2
 rfl
theorem args_two {c:Call} {b:Builtin} (hc:c.callee = .builtin b) {x y:Operand} {t u:TypeId} (h1:c.args.toList=[x,y]) (h2:c.argTypes.toList=[t,u]):c={ callee:=.builtin b,args := #[x,y],argTypes := #[t,u] }:=by
 obtain ⟨callee,⟨args⟩,⟨ats⟩⟩:=c
 simp at hc h1 h2
 subst hc h1 h2
 rfl
theorem args_two' {c:Call} {b:Builtin} (hc:c.callee = .builtin b) {x y:Operand} (h1:c.args.toList=[x,y]):c={ callee:=.builtin b,args := #[x,y],argTypes:=c.argTypes }:=by
 obtain ⟨callee,⟨args⟩,ats⟩:=c
 simp at hc h1
 subst hc h1
 rfl
theorem args_three' {c:Call} {b:Builtin} (hc:c.callee = .builtin b) {x y z:Operand} (h1:c.args.toList=[x,y,z]):c={ callee:=.builtin b,args := #[x,y,z],argTypes:=c.argTypes }:=by
 obtain ⟨callee,⟨args⟩,ats⟩:=c
 simp at hc h1
 subst hc h1
 rfl
theorem Qt {m:MOp} {v:AV} (hK:K v [] [] H) (h:OpT P o m.slots F H [] [] v H):Found P o m F H K:=⟨v,[],[],H,hK,fun _ _=>rfl,fun _ h=>(by cases h),h⟩
theorem XE {m:MOp} (h:∃ v,K v [] [] H/\OpT P o m.slots F H [] [] v H):Found P o m F H K:=by
 obtain ⟨v,h1,h2⟩:=h
 exact Qt h1 h2
theorem Jo {m:MOp} (h:∃ v rd,K v rd [] H/\OpT P o m.slots F H rd [] v H):Found P o m F H K:=by
 obtain ⟨v,rd,h1,h2⟩:=h
 exact ⟨v,rd,[],H,h1,fun _ _=>rfl,fun _ h=>(by cases h),h2⟩
theorem found_bin2 {op:BinOp} {t yt:TypeId} {x y:Operand} {m:MOp} (ho:o.op = .binOp op t x y yt) (hc:J2 P op t x y=some m) (h:mev F H d K m):Found P o m F H K:=by
 unfold J2 at hc
 split at hc
 ·rename_i hif
  split at hc
  ·obtain ⟨r,hr,rfl⟩:=map_some hc
   simp only [mev] at h
   split at h
   ·rename_i hv; exact Qt h (opt_ifnil (neg:=false) hif hr ho hv (.inl ⟨rfl,rfl⟩))
   ·rename_i u v hv; exact Qt h (opt_ifnil (neg:=false) hif hr ho hv (.inr ⟨_,_,rfl,rfl⟩))
   ·exact h.elim
  ·obtain ⟨r,hr,rfl⟩:=map_some hc
   simp only [mev] at h
   split at h
   ·rename_i hv; exact Qt h (opt_ifnil (neg:=true) hif hr ho hv (.inl ⟨rfl,rfl⟩))
   ·rename_i u v hv; exact Qt h (opt_ifnil (neg:=true) hif hr ho hv (.inr ⟨_,_,rfl,rfl⟩))
   ·exact h.elim
  ·cases hc
 ·split at hc
  ·rename_i n a b hn ha hb
   injection hc with hc; subst hc
   simp only [mev] at h
   split at h
   ·rename_i as bs h1 h2
    split at h
    ·rename_i la lb g1 g2
     exact Qt h.2.2 (opt_aeq (neg:=false) hn ha hb ho h1 h2 g1 g2 h.1 h.2.1)
    ·exact h.elim
   ·exact h.elim
  ·rename_i n a b hn ha hb
   injection hc with hc; subst hc
   simp only [mev] at h
   split at h
   ·rename_i as bs h1 h2
    split at h
    ·rename_i la lb g1 g2
     exact Qt h.2.2 (opt_aeq (neg:=true) hn ha hb ho h1 h2 g1 g2 h.1 h.2.1)
    ·exact h.elim
   ·exact h.elim
  ·rename_i a b hn ha hb
   unfold JW at hc
   split at hc
   ·rename_i hst
    split at hc
    ·injection hc with hc; subst hc
     simp only [mev] at h
     split at h
     ·rename_i s u h1 h2; exact Qt h.2 (opt_scat ha hb ho h1 h2 h.1)
     ·exact h.elim
    ·injection hc with hc; subst hc
     simp only [mev] at h
     split at h
     ·rename_i s u h1 h2; exact Qt h (opt_seq (neg:=false) ha hb ho h1 h2)
     ·exact h.elim
    ·injection hc with hc; subst hc
     simp only [mev] at h
     split at h
     ·rename_i s u h1 h2; exact Qt h (opt_seq (neg:=true) ha hb ho h1 h2)
     ·exact h.elim
    ·cases hc
   ·split at hc
    ·rename_i ks hk
     injection hc with hc; subst hc
     simp only [mev] at h
     split at h
     ·rename_i as bs h1 h2
      split at h
      ·rename_i la lb g1 g2
       exact Qt h.2.2 (opt_aeqx (neg:=false) hk ha hb ho h1 h2 g1 g2 h.1 h.2.1)
      ·exact h.elim
     ·exact h.elim
    ·rename_i ks hk
     injection hc with hc; subst hc
     simp only [mev] at h
     split at h
     ·rename_i as bs h1 h2
      split at h
      ·rename_i la lb g1 g2
       exact Qt h.2.2 (opt_aeqx (neg:=true) hk ha hb ho h1 h2 g1 g2 h.1 h.2.1)
      ·exact h.elim
     ·exact h.elim
    ·split at hc
     ·rename_i n hk
      injection hc with hc; subst hc
      simp only [mev] at h
      split at h
      ·rename_i as bs h1 h2
       split at h
       ·rename_i la lb g1 g2
        exact Qt h.2.2 (opt_aeq8 hk ha hb ho h1 h2 g1 g2 h.1 h.2.1)
       ·exact h.elim
      ·exact h.elim
     ·cases hc
    ·cases hc
  ·cases hc
theorem found_call {c:Call} {m:MOp} (ho:o.op = .call c) (hc:J0 P c=some m) (h:mev F H d K m):Found P o m F H K:=by
 unfold J0 at hc
 split at hc
 ·-- a static call
  split at hc
  ·split at hc
   ·injection hc with hc; subst hc; exact h.elim
   ·cases hc
  ·cases hc
 ·split at hc
  ·injection hc with hc; subst hc; exact h.elim
  ·cases hc
 ·split at hc
  ·injection hc with hc; subst hc; exact h.elim
  ·cases hc
 ·-- len
  rename_i hb
  split at hc
  ·rename_i x t hx ht
   have e:=args_one hb hx ht
   rw [e] at ho
   split at hc
   ·rename_i e0 a hu ha
    injection hc with hc; subst hc
    exact XE (opt_len hu ha ho (K:=fun v=>K v [] [] H) h)
   ·rename_i n e0 hu
    injection hc with hc; subst hc
    exact Qt h (opt_lenc hu ho _)
   ·rename_i k0 e0 a hu ha
    injection hc with hc; subst hc
    simp only [mev] at h
    split at h
    ·rename_i i hv
     split at h
     ·rename_i ks hi; exact Jo ⟨_,_,h,opt_lenm hu ha ho hv hi⟩
     ·exact h.elim
    ·exact h.elim
   ·rename_i a hu ha
    injection hc with hc; subst hc
    simp only [mev] at h
    split at h
    ·rename_i s hv; exact Qt h (opt_slen hu ha ho hv)
    ·exact h.elim
   ·cases hc
  ·cases hc
 ·-- append
  rename_i hb
  split at hc
  ·rename_i x y t u hx ht
   split at hc
   ·rename_i htu
    subst htu
    have e:=args_two hb hx ht
    rw [e] at ho
    split at hc
    ·rename_i e0 a b hu ha hbb
     split at hc
     ·rename_i z by_ zero hz
      split at hc
      ·cases hc
      ·rename_i hz0
       injection hc with hc; subst hc
       simp only [mev] at h
       split at h
       ·rename_i v hv hw
        split at h
        ·rename_i rd news hs
         obtain ⟨_,h1,h2,h3,h4,h5⟩:=h
         exact ⟨_,_,_,_,h5,fun i hi=>QG hi,fun k hk=>QK hk,opt_app_nil hu hz hz0 ha hbb ho hv hw hs h1 h2 h3 h4⟩
        ·exact h.elim
       ·rename_i i n v hv hw
        split at h
        ·rename_i e' z' els fl rd news hi hs
         obtain ⟨_,h1,rfl,rfl,h6,h7,h8,h⟩:=h
         rcases h with ⟨h4,h5,h9⟩ | ⟨h4,h5,h9⟩
         ·refine ⟨_,_,_,_,h9,fun k hk=>?_,fun k hk=>?_,opt_app hu hz hz0 ha hbb ho hv hw hi hs h1 h4 h5 h6 h7 h8⟩
          all_goals simp at hk
          ·rw [QG (by simpa using hk.2),QG (by simpa using hk.1)]
          ·rcases hk with rfl | rfl <;> simp [get] <;> split <;> rfl
         ·refine ⟨_,_,_,_,h9,fun k hk=>?_,fun k hk=>?_,opt_app_own hu hz hz0 ha hbb ho hv hw hi hs h1 h4 h5 h6 h7 h8⟩
          all_goals simp at hk
          ·rw [QG (by simpa using hk.2),QG (by simpa using hk.1)]
          ·rcases hk with rfl | rfl <;> simp [get] <;> split <;> rfl
        ·exact h.elim
       ·exact h.elim
     ·cases hc
    ·cases hc
   ·cases hc
  ·cases hc
 ·-- copy
  rename_i hb
  split at hc
  ·rename_i x y t u hx ht
   have e:=args_two hb hx ht
   rw [e] at ho
   split at hc
   ·rename_i e0 a b hu ha hbb
    split at hc
    ·rename_i hz
     injection hc with hc; subst hc
     simp only [mev] at h
     split at h
     ·rename_i i j p n v hv hw
      split at h
      ·rename_i e' z els fl rd news hi hs
       split at h
       ·rename_i el hj
        obtain ⟨h1,h2,h3,h4,h5⟩:=h
        exact ⟨_,_,_,_,h5,fun k hk=>QG hk,fun k hk=>QK hk,opt_cpy hu hz ha hbb ho hv hw hi hs hj h1 h2 h3 h4⟩
       ·exact h.elim
      ·exact h.elim
     ·rename_i i j n v hv hw
      split at h
      ·rename_i e' z els fl rd news hi hs
       obtain ⟨rfl,h1,h2,h3,h4,h5,h6⟩:=h
       exact ⟨_,_,_,_,h6,fun k hk=>QG hk,fun k hk=>QK hk,opt_cpyr hu hz ha hbb ho hv hw hi hs h1 h2 h3 h4 h5⟩
      ·exact h.elim
     ·exact h.elim
    ·cases hc
   ·cases hc
  ·cases hc
 ·-- clear
  rename_i hb
  split at hc
  ·rename_i x t hx ht
   have e:=args_one hb hx ht
   rw [e] at ho
   split at hc
   ·rename_i e0 a hu ha
    split at hc
    ·rename_i z by_ zero hz
     split at hc
     ·cases hc
     ·rename_i hz0
      injection hc with hc; subst hc
      simp only [mev] at h
      split at h
      ·rename_i i j n hv
       split at h
       ·rename_i e' z' els fl hi
        obtain ⟨rfl,h1,h2,h3⟩:=h
        exact ⟨_,_,_,_,h3,fun k hk=>QG hk,fun k hk=>QK hk,opt_clr hu hz hz0 ha ho hv hi h1 h2⟩
       ·exact h.elim
      ·exact h.elim
    ·cases hc
   ·cases hc
  ·cases hc
 ·-- min
  rename_i hb
  split at hc
  ·rename_i x y hx
   have e:=args_two' hb hx
   rw [e] at ho
   split at hc
   ·rename_i a b ha hbb
    injection hc with hc; subst hc
    simp only [mev] at h
    split at h
    ·rename_i k n k' n' h1 h2
     exact Qt h (opt_mn ha hbb ho h1 h2)
    ·exact h.elim
   ·cases hc
  ·rename_i x y z hx
   have e:=args_three' hb hx
   rw [e] at ho
   split at hc
   ·rename_i a b c ha hbb hcc
    injection hc with hc; subst hc
    simp only [mev] at h
    split at h
    ·rename_i k n k' n' k'' n'' h1 h2 h3
     exact Qt h (opt_mn3 ha hbb hcc ho h1 h2 h3)
    ·exact h.elim
   ·cases hc
  ·cases hc
 ·-- max
  rename_i hb
  split at hc
  ·rename_i x y hx
   have e:=args_two' hb hx
   rw [e] at ho
   split at hc
   ·rename_i a b ha hbb
    injection hc with hc; subst hc
    simp only [mev] at h
    split at h
    ·rename_i k n k' n' h1 h2
     exact Qt h (opt_mx ha hbb ho h1 h2)
    ·exact h.elim
   ·cases hc
  ·rename_i x y z hx
   have e:=args_three' hb hx
   rw [e] at ho
   split at hc
   ·rename_i a b c ha hbb hcc
    injection hc with hc; subst hc
    simp only [mev] at h
    split at h
    ·rename_i k n k' n' k'' n'' h1 h2 h3
     exact Qt h (opt_mx3 ha hbb hcc ho h1 h2 h3)
    ·exact h.elim
   ·cases hc
  ·cases hc
 ·cases hc
theorem mev_found {m:MOp} (hc:Q7 P o.op=some m) (h:mev F H d K m):Found P o m F H K:=by
 cases ho:o.op with
 | move x =>
  rw [ho] at hc
  obtain ⟨r,hr,rfl⟩:=map_some hc
  simp only [mev] at h
  split at h
  ·rename_i v hv; exact Qt h (opt_mv hr (.inl ho) hv)
  ·exact h.elim
 | assign x =>
  rw [ho] at hc
  obtain ⟨r,hr,rfl⟩:=map_some hc
  simp only [mev] at h
  split at h
  ·rename_i v hv; exact Qt h (opt_mv hr (.inr ho) hv)
  ·exact h.elim
 | pick c a b =>
  rw [ho] at hc
  simp only [Q7] at hc
  split at hc
  ·rename_i rc ra rb h1 h2 h3
   injection hc with hc; subst hc
   simp only [mev] at h
   split at h
   ·rename_i t ht
    split at h
    ·rename_i v hv; exact Qt h (opt_pick h1 h2 h3 ho ht hv)
    ·exact h.elim
   ·exact h.elim
  ·cases hc
 | alloc e =>
  rw [ho] at hc
  simp only [Q7] at hc
  split at hc
  ·rename_i z by_ zero hz
   injection hc with hc; subst hc
   simp only [mev] at h
   exact ⟨_,_,_,_,h.2.2,fun k hk=>QG hk,fun k hk=>QK hk,opt_alloc hz ho h.2.1 _ (tyZ_closed hz)⟩
  ·cases hc
 | box e x =>
  rw [ho] at hc
  simp only [Q7] at hc
  split at hc
  ·rename_i z a hz ha
   injection hc with hc; subst hc
   simp only [mev] at h
   split at h
   ·rename_i v hv
    split at h
    ·rename_i cs hcs
     exact ⟨_,_,_,_,h.2.2,fun k hk=>QG hk,fun k hk=>QK hk,opt_box hz ha ho h.2.1 hv hcs h.1⟩
    ·exact h.elim
   ·exact h.elim
  ·cases hc
 | build t parts =>
  rw [ho] at hc
  simp only [Q7] at hc
  split at hc
  ·rename_i fields n by_ zero hu hz
   split at hc
   ·rename_i ps hp
    split at hc
    ·rename_i hall
     injection hc with hc; subst hc
     simp only [mev] at h
     split at h
     ·rename_i cs hcs; exact Qt h (opt_build_struct hu hz hp hall ho hcs)
     ·exact h.elim
    ·cases hc
   ·cases hc
  ·rename_i len e n by_ zero hu hz
   split at hc
   ·rename_i m hm
    split at hc
    ·rename_i ps hp
     injection hc with hc; subst hc
     simp only [mev] at h
     split at h
     ·rename_i cs hcs; exact Qt h (opt_build_array hu hz hm hp ho hcs)
     ·exact h.elim
    ·cases hc
   ·cases hc
  ·cases hc
 | buildSlice t len parts =>
  rw [ho] at hc
  simp only [Q7] at hc
  split at hc
  ·rename_i e hu
   split at hc
   ·rename_i z by_ zero ps hz hp
    split at hc
    ·rename_i hl
     injection hc with hc; subst hc
     simp only [mev] at h
     split at h
     ·rename_i l hf
      exact ⟨_,_,_,_,h.2.2,fun k hk=>QG hk,fun k hk=>QK hk,opt_bslice hu hz hp hl.1 hl.2.1 hl.2.2 ho h.2.1 hf⟩
     ·exact h.elim
    ·cases hc
   ·cases hc
  ·cases hc
 | load t x =>
  rw [ho] at hc
  simp only [Q7] at hc
  split at hc
  ·rename_i g n a hg hz ha
   injection hc with hc; subst hc
   exact Jo (opt_ld hg hz ha ho (K:=fun v rd=>K v rd [] H) h)
  ·rename_i n hg hz ha
   split at hc
   ·rename_i g
    injection hc with hc; subst hc
    simp only [mev] at h
    split at h
    ·rename_i g' cs hi
     obtain ⟨rfl,h1,h2⟩:=h
     exact Jo ⟨_,_,h2,opt_ldg hg hz ho hi h1 _⟩
    ·exact h.elim
   ·cases hc
  ·split at hc
   ·injection hc with hc; subst hc; exact h.elim
   ·cases hc
  ·cases hc
 | store t x v =>
  rw [ho] at hc
  simp only [Q7] at hc
  split at hc
  ·rename_i n a b hz ha hb
   injection hc with hc; subst hc
   simp only [mev] at h
   split at h
   ·rename_i i j p u hv hu
    split at h
    ·rename_i e z els fl cs hi hcs
     split at h
     ·rename_i el hj
      exact ⟨_,_,_,_,h.2.2,fun k hk=>QG hk,fun k hk=>QK hk,opt_st hz ha hb ho hv hu hi hcs hj h.1 h.2.1⟩
     ·exact h.elim
    ·exact h.elim
   ·exact h.elim
  ·cases hc
 | nilCheck x =>
  rw [ho] at hc
  obtain ⟨r,hr,rfl⟩:=map_some hc
  simp only [mev] at h
  split at h
  ·rename_i i j p hv; exact Qt h (opt_nilc hr ho hv (.inl ⟨_,_,_,rfl⟩))
  ·rename_i cs hv; exact Qt h (opt_nilc hr ho hv (.inr ⟨_,rfl⟩))
  ·exact h.elim
 | binOp op t x y yt =>
  rw [ho] at hc
  simp only [Q7] at hc
  split at hc
  ·split at hc
   ·rename_i a b ha hb
    injection hc with hc; subst hc
    simp only [mev] at h
    split at h
    ·rename_i k n k' n' h1 h2
     exact XE (opt_bin ha hb ho h1 h2 h)
    ·exact h.elim
   ·cases hc
  ·split at hc
   ·rename_i hbt
    have ht:P.underlying t=some .bool:=by
     unfold isBoolT at hbt
     split at hbt
     ·assumption
     ·cases hbt
    split at hc
    ·rename_i a b ha hb
     injection hc with hc; subst hc
     simp only [mev] at h
     split at h
     ·rename_i u v h1 h2
      exact Qt h (opt_beq (neg:=false) ha hb ho ht h1 h2)
     ·exact h.elim
    ·rename_i a b ha hb
     injection hc with hc; subst hc
     simp only [mev] at h
     split at h
     ·rename_i u v h1 h2
      exact Qt h (opt_beq (neg:=true) ha hb ho ht h1 h2)
     ·exact h.elim
    ·cases hc
   ·split at hc
    ·rename_i sl a hn ha
     injection hc with hc; subst hc
     exact XE (opt_isnil (neg:=false) ha ho hn (K:=fun v=>K v [] [] H) rfl h)
    ·rename_i sl a hn ha
     injection hc with hc; subst hc
     exact XE (opt_isnil (neg:=true) ha ho hn (K:=fun v=>K v [] [] H) rfl h)
    ·exact found_bin2 ho hc h
    ·cases hc
 | sliceToArrayPointer t x =>
  rw [ho] at hc
  simp only [Q7] at hc
  split at hc
  ·rename_i n e a hu ha
   split at hc
   ·rename_i hz
    injection hc with hc; subst hc
    simp only [mev] at h
    split at h
    ·rename_i z els hv
     obtain ⟨l,rfl,rfl,h1,h2⟩:=h
     exact Qt h2 (opt_s2ap hu ha ho hv h1 hz.2)
    ·exact h.elim
   ·cases hc
  ·cases hc
 | unOp op t x =>
  rw [ho] at hc
  obtain ⟨r,hr,rfl⟩:=map_some hc
  exact XE (opt_un hr (K:=fun v=>K v [] [] H) h ho)
 | convert src dst x =>
  rw [ho] at hc
  simp only [Q7] at hc
  split at hc
  ·rename_i ks k h1 h2
   obtain ⟨r,hr,rfl⟩:=map_some hc
   simp only [mev] at h
   split at h
   ·rename_i k' n hv; exact Qt h (opt_cvt hr ho h1 h2 hv)
   ·exact h.elim
  ·rename_i e h1 h2
   split at hc
   ·rename_i h8
    obtain ⟨r,hr,rfl⟩:=map_some hc
    simp only [mev] at h
    split at h
    ·rename_i s hv; exact Qt h (opt_s2b h1 h2 (isU8T_spec h8) hr ho hv)
    ·exact h.elim
   ·cases hc
  ·rename_i e h1 h2
   split at hc
   ·rename_i h8
    obtain ⟨r,hr,rfl⟩:=map_some hc
    simp only [mev] at h
    split at h
    ·rename_i v hv
     split at h
     ·rename_i rd l hb; exact Jo ⟨_,_,h,opt_b2s h1 h2 (isU8T_spec h8) hr ho hv hb⟩
     ·exact h.elim
    ·exact h.elim
   ·cases hc
  ·cases hc
 | makeFunc fn first captured =>
  rw [ho] at hc
  simp only [Q7] at hc
  split at hc
  ·rename_i hf
   obtain ⟨rs,hr,rfl⟩:=map_some hc
   simp only [mev] at h
   split at h
   ·rename_i vs hv; exact Qt h (opt_mkfn hf hr ho hv)
   ·exact h.elim
  ·split at hc
   ·rename_i name x hfst hcap
    obtain ⟨r,hr,rfl⟩:=map_some hc
    simp only [mev] at h
    split at h
    ·rename_i v hv; exact Qt h.2 (opt_mkbm hfst hcap hr ho hv h.1)
    ·exact h.elim
   ·rename_i f x hfst hcap
    obtain ⟨r,hr,rfl⟩:=map_some hc
    simp only [mev] at h
    split at h
    ·rename_i v hv; exact Qt h (opt_mkbnd hfst hcap hr ho hv)
    ·exact h.elim
   ·cases hc
 | makeInterface t x =>
  rw [ho] at hc
  simp only [Q7] at hc
  split at hc
  ·rename_i ht
   obtain ⟨r,hr,rfl⟩:=map_some hc
   simp only [mev] at h
   split at h
   ·rename_i v hv; exact Qt h.2 (opt_mkif ht hr ho hv h.1)
   ·exact h.elim
  ·cases hc
 | makeSlice t l c =>
  rw [ho] at hc
  simp only [Q7] at hc
  split at hc
  ·rename_i e hu
   split at hc
   ·rename_i z by_ zero a b hz ha hb
    split at hc
    ·cases hc
    ·rename_i hz0
     injection hc with hc; subst hc
     simp only [mev] at h
     split at h
     ·rename_i n n' h1 h2
      obtain ⟨_,hd,h0,hnq,h63,hby,h⟩:=h
      exact ⟨_,_,_,_,h,fun k hk=>QG hk,fun k hk=>QK hk,opt_mksl hu hz hz0 ha hb ho hd (tyZ_closed hz) h1 h2 h0 hnq h63 hby⟩
     ·exact h.elim
   ·cases hc
  ·cases hc
 | slice t x lo hi mx =>
  rw [ho] at hc
  cases mx with
  | some q=>simp [Q7] at hc
  | none =>
   simp only [Q7] at hc
   split at hc
   ·rename_i e a l h' hu ha hl hh
    split at hc
    ·rename_i z hz
     split at hc
     ·cases hc
     ·injection hc with hc; subst hc
      exact Jo (opt_slc hu hz ha hl hh ho (K:=fun v rd=>K v rd [] H) h)
    ·cases hc
   ·rename_i n e a l h' hu ha hl hh
    split at hc
    ·rename_i hz
     injection hc with hc; subst hc
     simp only [mev] at h
     split at h
     ·rename_i i j p hv
      split at h
      ·rename_i l0 h0 h1 h2
       obtain ⟨g1,g2,g3,g4,g5⟩:=h
       exact Qt g5 (opt_slarr hu hz ha hl hh ho hv h1 h2 g1 g2 g3 g4)
      ·exact h.elim
     ·rename_i cs hv
      split at h
      ·rename_i l0 h0 h1 h2
       obtain ⟨rfl,rfl,g3,g4,g5⟩:=h
       exact Qt g5 (opt_slarr_r hu hz ha hl hh ho hv h1 h2 g3 g4)
      ·exact h.elim
     ·exact h.elim
    ·split at hc
     ·rename_i z hz
      split at hc
      ·cases hc
      ·rename_i hz0
       injection hc with hc; subst hc
       obtain rfl:lo=none:=by
        cases lo with
        | none=>rfl
        | some q=>simp only [copt] at hl; split at hl <;> cases hl
       obtain rfl:hi=none:=by
        cases hi with
        | none=>rfl
        | some q=>simp only [copt] at hh; split at hh <;> cases hh
       simp only [mev] at h
       split at h
       ·rename_i i hv
        split at h
        ·rename_i e' z' el hi
         obtain ⟨rfl,h1,h3⟩:=h
         exact ⟨_,_,_,_,h3,fun k hk=>QG hk,fun k hk=>QK hk,opt_slst hu hz hz0 ha ho hv hi h1⟩
        ·exact h.elim
       ·exact h.elim
     ·cases hc
   ·rename_i a h' hu ha hl hh
    injection hc with hc; subst hc
    obtain rfl:lo=none:=by
     cases lo with
     | none=>rfl
     | some q =>
      simp only [copt] at hl
      split at hl <;> cases hl
    cases hi with
    | none=>simp [copt] at hh
    | some q =>
     have hq:Qu q=some h':=by
      simp only [copt] at hh
      split at hh
      ·rename_i a1 e1; injection hh with hh; injection hh with hh; rw [e1,hh]
      ·cases hh
     simp only [mev] at h
     split at h
     ·rename_i s k n h1 h2; exact Qt h.2.2 (opt_stake hu ha hq ho h1 h2 h.1 h.2.1)
     ·exact h.elim
   ·rename_i a l' hu ha hl hh
    injection hc with hc; subst hc
    obtain rfl:hi=none:=by
     cases hi with
     | none=>rfl
     | some q =>
      simp only [copt] at hh
      split at hh <;> cases hh
    cases lo with
    | none=>simp [copt] at hl
    | some q =>
     have hq:Qu q=some l':=by
      simp only [copt] at hl
      split at hl
      ·rename_i a1 e1; injection hl with hl; injection hl with hl; rw [e1,hl]
      ·cases hl
     simp only [mev] at h
     split at h
     ·rename_i s k n h1 h2; exact Qt h.2.2 (opt_sdrop hu ha hq ho h1 h2 h.1 h.2.1)
     ·exact h.elim
   ·cases hc
 | fieldAddr s x f =>
  rw [ho] at hc
  simp only [Q7] at hc
  split at hc
  ·rename_i fields a hu ha
   split at hc
   ·rename_i fd hf
    split at hc
    ·rename_i n hz
     split at hc
     ·cases hc
     ·rename_i hn
      injection hc with hc; subst hc
      exact XE (opt_fa hu hf hz hn ha ho (K:=fun v=>K v [] [] H) h)
    ·cases hc
   ·cases hc
  ·cases hc
 | field t x f =>
  rw [ho] at hc
  simp only [Q7] at hc
  split at hc
  ·rename_i fields a hu ha
   split at hc
   ·rename_i fd hf
    split at hc
    ·rename_i g n hg hz
     injection hc with hc; subst hc
     exact XE (opt_fld hu hf hg hz ha ho (K:=fun v=>K v [] [] H) h)
    ·cases hc
   ·cases hc
  ·cases hc
 | indexAddr t x i =>
  rw [ho] at hc
  simp only [Q7] at hc
  split at hc
  ·rename_i e a b hu ha hb
   split at hc
   ·rename_i z hz
    injection hc with hc; subst hc
    exact Jo (opt_ixsl hu hz ha hb ho (K:=fun v rd=>K v rd [] H) h)
   ·cases hc
  ·rename_i n e a b hu ha hb
   split at hc
   ·rename_i z hz
    injection hc with hc; subst hc
    exact XE (opt_ixarr hu hz ha hb ho (K:=fun v=>K v [] [] H) h)
   ·cases hc
  ·cases hc
 | index t x i =>
  rw [ho] at hc
  simp only [Q7] at hc
  split at hc
  ·rename_i n e a b hu ha hb
   split at hc
   ·rename_i g z hg hz
    injection hc with hc; subst hc
    exact XE (opt_ixval hu hg hz ha hb ho (K:=fun v=>K v [] [] H) h)
   ·cases hc
  ·rename_i a b hu ha hb
   injection hc with hc; subst hc
   simp only [mev] at h
   split at h
   ·rename_i s k n h1 h2
    split at h
    ·rename_i b8 h3; exact Qt h.2 (opt_sidx hu ha hb ho h1 h2 h.1 h3)
    ·exact h.elim
   ·exact h.elim
  ·cases hc
 | extract x i =>
  rw [ho] at hc
  obtain ⟨r,hr,rfl⟩:=map_some hc
  simp only [mev] at h
  split at h
  ·rename_i vs hv
   split at h
   ·rename_i v hi; exact Qt h (opt_ext hr ho hv hi)
   ·exact h.elim
  ·exact h.elim
 | call c =>
  rw [ho] at hc
  exact found_call ho hc h
 | makeMap t r =>
  rw [ho] at hc
  cases r with
  | none =>
   simp only [Q7] at hc
   injection hc with hc; subst hc
   simp only [mev] at h
   exact ⟨_,_,_,_,h.2,fun k hk=>QG hk,fun k hk=>QK hk,opt_mkmap ho h.1 _⟩
  | some r=>simp [Q7] at hc
 | mapUpdate t m k v =>
  rw [ho] at hc
  simp only [Q7] at hc
  split at hc
  ·rename_i nk a b c ht ha hb hc'
   injection hc with hc; subst hc
   simp only [mev] at h
   split at h
   ·rename_i i cs h1 h2 h3
    split at h
    ·rename_i ks l hi hl
     exact ⟨_,_,_,_,h.2.2.2,fun k hk=>QG hk,fun k hk=>QK hk,opt_mapadd ht ha hb hc' ho h1 h2 h3 hi hl h.1 h.2.1 h.2.2.1⟩
    ·exact h.elim
   ·exact h.elim
  ·cases hc
 | insert t m k v =>
  rw [ho] at hc
  simp only [Q7] at hc
  split at hc
  ·rename_i ht
   split at hc
   ·rename_i a b c ha hb hc'
    injection hc with hc; subst hc
    simp only [mev] at h
    split at h
    ·rename_i i n u h1 h2 h3
     split at h
     ·rename_i hi
      exact ⟨_,_,_,_,h,fun k hk=>QG hk,fun k hk=>QK hk,opt_fins (kvs:=[]) ht ha hb hc' ho h1 h2 h3 hi (.inl ⟨rfl,rfl⟩)⟩
     ·rename_i kvs hi
      exact ⟨_,_,_,_,h.2,fun k hk=>QG hk,fun k hk=>QK hk,opt_fins ht ha hb hc' ho h1 h2 h3 hi (.inr ⟨rfl,h.1⟩)⟩
     ·exact h.elim
    ·exact h.elim
   ·cases hc
  ·cases hc
 | lookup t m k ok =>
  rw [ho] at hc
  cases ok with
  | false =>
   simp only [Q7] at hc
   split at hc
   ·rename_i nk a b ht ha hb
    injection hc with hc; subst hc
    simp only [mev] at h
    split at h
    ·rename_i i cs h1 h2
     split at h
     ·rename_i ks l hi hl
      exact Jo ⟨_,_,h.2.2,opt_mhas ht ha hb ho h1 h2 hi hl h.1 h.2.1⟩
     ·exact h.elim
    ·exact h.elim
   ·cases hc
  | true =>
   simp only [Q7] at hc
   split at hc
   ·rename_i ht
    split at hc
    ·rename_i a b ha hb
     injection hc with hc; subst hc
     simp only [mev] at h
     split at h
     ·rename_i i n h1 h2
      split at h
      ·rename_i kvs hi; exact Jo ⟨_,_,h.2,opt_flk ht ha hb ho h1 h2 hi h.1⟩
      ·exact h.elim
     ·exact h.elim
    ·cases hc
   ·cases hc
 | panic x =>
  rw [ho] at hc
  simp only [Q7] at hc
  injection hc with hc; subst hc
  exact h.elim
 | _=>rw [ho] at hc; simp [Q7] at hc
end
end Go.Proofs.YthmbjgnjfjjibaaGreatDoor
namespace Go.Proofs.YthmbjgnjfjjibaaGreatDoor
open Go.RowKit
set_option maxRecDepth 100000
structure MOper where
 dst:Option Nat
 op:MOp
 guard:Option (Nat×Bool)
 pre:List Nat
def preOf (o:Oper):List Nat:=(o.after.toList.filter (Region.binds .any)).map (·.on)
def dstOK (N:Nat):Option Nat->Bool
 | none=>true
 | some d=>decide (d<N)
def QN (P:Program) (N:Nat) (ops:Array Oper) (o:Oper):Option MOper :=
 match Q7 P o.op with
 | none=>none
 | some m=>if dstOK N o.dst=true then
   match o.guard with
   | none=>some ⟨o.dst,m,none,preOf o⟩
   | some (j,want)=>match (ops[j]?).bind (·.dst) with
    | some g=>some ⟨o.dst,m,some (g,want),preOf o⟩
    | none=>none
  else none
def putF (F:List (Nat×AV)) (dst:Option Nat) (v:AV):List (Nat×AV) :=
 match dst with
 | some d=>(d,v)::F
 | none=>F
def MOper.slots (mo:MOper):List Nat:=mo.op.slots++match mo.guard with
 | none=>[]
 | some (g,_)=>[g]
def Fc:Option Nat->Fence
 | none=>Fence.wide
 | some l=>Fence.wide.inRound l
theorem Fc_round (r:Option Nat):(Fc r).round=r:=by cases r <;> rfl
theorem Fc_fn (r:Option Nat) (f:FuncId):(Fc r).fn f:=by cases r <;> trivial
theorem Fc_depth (r:Option Nat):(Fc r).depth.isSome=true->False:=by cases r <;> (intro h; cases h)
theorem fenced_Fc (P:Program) (r:Option Nat):Machine.fenced P (Fc r)=Machine.fenced P Fence.wide:=by cases r <;> rfl
variable {args:Array Value} {r:Option Nat} {P:Program} {w:World}
theorem callsIn_Fc {n:Nat} {f:FuncId} {R:Ending->World->Prop}:CallsIn (Fc r) n P f args w R ↔ Calls P f args w R:=by
 cases r with
 | none=>exact callsIn_wide
 | some l=>exact ⟨fun h=>callsIn_wide.1 (CallsIn.outOfRound h),fun h=>CallsIn.inRound l (callsIn_wide.2 h)⟩
theorem rowsIn_Fc {n:Nat} {row:String} {R:Value->World->Prop} (h:Rows P row args w R):RowsIn (Fc r) n P row args w R:=fun c cs _=>by
 obtain ⟨v,w',q,s⟩:=h c cs
 exact ⟨v,w',q,by rw [fenced_Fc]; exact stepsIn_wide.2 s⟩
theorem wpIn_of_wp {o:Oper} {a:Act} {K:Act->World->Prop} {Q:Exit->Act->World->Prop} (hnd:∀ c,o.op ≠ .defer c) (h:o.wp P a w K Q):o.wpIn (Fc r) 0 P a w K Q:=by
 refine ⟨fun f _=>Fc_fn r f,?_⟩
 rw [Oper.semAt_eq _ _ _ hnd]
 unfold Oper.wp at h
 generalize (execOp a.eval o).run P w=res at h ⊢
 unfold Oper.upon at h
 split at h
 ·exact h
 ·exact h
 ·exact h
 ·exact ⟨fun hd=>(Fc_depth r hd).elim,callsIn_Fc.2 h⟩
 ·exact ⟨fun hd=>(Fc_depth r hd).elim,rowsIn_Fc h⟩
 ·exact h
 ·exact h.elim
def wpG (P:Program) (r:Option Nat) (ops:Array Oper) (Q:Exit->Act->World->Prop) (o:Oper) (K:Act->World->Prop) (a:Act) (w:World):Prop :=
 if Region.wanted o (yielded ops a.tmps)=true then o.wpIn (Fc r) 0 P a w K Q else K (a.put o.dst undef) w
def GT (P:Program) (N:Nat) (ops:Array Oper) (o:Oper) (ts:List Nat) (F:List (Nat×AV)) (H:List (Nat×Ob)) (rd wr:List Nat) (v:AV) (H1:List (Nat×Ob)):Prop :=
 ∀ (rn:Option Nat) (S:Nat->Prop) (ρ:Rho) (a:Act) (w:World) (Q:Exit->Act->World->Prop) (K:Act->World->Prop),¬ LetsOut Q->a.tmps.size=N->FRs ts F a w S ρ->(∀ b,S b->b<w.heap.size) →
  HRi (fun i=>i∈rd\/i∈wr) w S ρ H->(∀ i,i∈wr->get H i=none->ρ i=none) →
  (∀ cv w' S' ρ',VR w' S' ρ' v cv->HRi (fun i=>i∈rd\/i∈wr) w' S' ρ' H1 →
   Ext w S (Jb ρ H fun i=>i∈rd\/i∈wr) ρ w' S' (Jb ρ' H1 fun i=>i∈rd\/i∈wr) ρ' (fun i=>i∈wr/\get H i=none)->K (a.put o.dst cv) w')->wpG P rn ops Q o K a w
structure StepM (P:Program) (N:Nat) (ops:Array Oper) (o:Oper) (mo:MOper) (F:List (Nat×AV)) (H:List (Nat×Ob)) (rd wr:List Nat) (v:AV) (H1:List (Nat×Ob)):Prop where
 off:∀ i,i ∉ wr->get H1 i=get H i
 on:∀ i,i∈wr->(get H1 i).isSome=true
 gt:GT P N ops o mo.slots F H rd wr v H1
variable {ops:Array Oper}
theorem Q3 {N:Nat} {o:Oper} {mo:MOper} (h:QN P N ops o=some mo):Q7 P o.op=some mo.op/\o.dst=mo.dst/\dstOK N mo.dst=true/\mo.pre=preOf o ∧
  ((o.guard=none/\mo.guard=none)\/∃ j g want,o.guard=some (j,want)/\(ops[j]?).bind (·.dst)=some g/\mo.guard=some (g,want)):=by
 unfold QN at h
 split at h
 ·cases h
 ·rename_i m hm
  split at h
  ·rename_i hd
   split at h
   ·rename_i hg
    injection h with h; subst h
    exact ⟨hm,rfl,hd,rfl,.inl ⟨hg,rfl⟩⟩
   ·rename_i j want hg
    split at h
    ·rename_i g hgd
     injection h with h; subst h
     exact ⟨hm,rfl,hd,rfl,.inr ⟨j,g,want,hg,hgd,rfl⟩⟩
    ·cases h
  ·cases h
theorem yielded_bool {j g:Nat} {a:Act} (h:(ops[j]?).bind (·.dst)=some g) {b:Bool} (hv:a.tmps.getD g undef = .bool b):yielded ops a.tmps j=some b:=by
 unfold yielded
 rw [h]
 by_cases hg:g<a.tmps.size
 ·have:a.tmps[g]?=some (.bool b):=by rw [getD_some hg,hv]
  simp [this]
 ·simp [undef,hg] at hv
theorem yielded_und {j g:Nat} {a:Act} (h:(ops[j]?).bind (·.dst)=some g) (hv:a.tmps.getD g undef=undef):yielded ops a.tmps j=none:=by
 unfold yielded
 rw [h]
 by_cases hg:g<a.tmps.size
 ·have:a.tmps[g]?=some undef:=by rw [getD_some hg,hv]
  simp [this,undef]
 ·simp [hg]
variable {S':Nat->Prop} {ρ':Rho} {w':World}
variable {h:Nat->Option Ob} {S:Nat->Prop} {ρ:Rho}
section
variable {P:Program} {N:Nat} {ops:Array Oper} {o:Oper} {mo:MOper} {F:List (Nat×AV)} {H:List (Nat×Ob)}
theorem compOp_nd {op:Op} {m:MOp} (h:Q7 P op=some m):∀ c,op ≠ .defer c:=fun c e=>by subst e; simp [Q7] at h
theorem stepM_op (hc:QN P N ops o=some mo) {K:AV->List Nat->List Nat->List (Nat×Ob)->Prop} {d:Nat} (h:mev F H d K mo.op)
  (hg:mo.guard=none\/∃ g want,mo.guard=some (g,want)/\get F g=some (.bool want)):∃ v rd wr H1,K v rd wr H1/\StepM P N ops o mo F H rd wr v H1:=by
 obtain ⟨e1,_,_,_,e5⟩:=Q3 hc
 obtain ⟨v,rd,wr,H1,hK,hoff,hon,hop⟩:=mev_found e1 h
 refine ⟨v,rd,wr,H1,hK,hoff,hon,fun rn S ρ a w Q K' hout hN hF hS hH hnew hK'=>?_⟩
 have hw:Region.wanted o (yielded ops a.tmps)=true:=by
  rcases e5 with ⟨g1,_⟩ | ⟨j,g,want,g1,g2,g3⟩
  ·simp [Region.wanted,g1]
  ·rcases hg with hg | ⟨g',want',hg,hgv⟩
   ·rw [g3] at hg; cases hg
   ·rw [g3] at hg
    simp only [Option.some.injEq,Prod.mk.injEq] at hg
    obtain ⟨rfl,rfl⟩:=hg
    have hv:=(hF g (by simp [MOper.slots,g3]) _ hgv).bool_inv
    simp [Region.wanted,g1,yielded_bool g2 hv]
 unfold wpG
 rw [if_pos hw]
 refine wpIn_of_wp (compOp_nd e1) ((hop S ρ a w Q K' (fun t ht v hv=>hF t (by simp [MOper.slots,ht]) v hv) hS hH hnew hK').resolve_right fun h=>hout h.2)
theorem stepM_skip (hc:QN P N ops o=some mo) {g:Nat} {want:Bool} (hg:mo.guard=some (g,want)) (hv:get F g=some (.bool (!want))\/get F g=some .und):StepM P N ops o mo F H [] [] .und H:=by
 obtain ⟨_,_,_,_,e5⟩:=Q3 hc
 refine ⟨fun _ _=>rfl,fun _ h=>(by cases h),fun rn S ρ a w Q K' hout hN hF hS hH hnew hK'=>?_⟩
 have hw:Region.wanted o (yielded ops a.tmps)=false:=by
  rcases e5 with ⟨_,g3⟩ | ⟨j,g',want',g1,g2,g3⟩
  ·rw [g3] at hg; cases hg
  ·rw [g3] at hg
   simp only [Option.some.injEq,Prod.mk.injEq] at hg
   obtain ⟨rfl,rfl⟩:=hg
   rcases hv with hv | hv
   ·have:=(hF g' (by simp [MOper.slots,g3]) _ hv).bool_inv
    rw [Region.wanted,g1]
    simp only [yielded_bool g2 this]
    cases want' <;> rfl
   ·have:=(hF g' (by simp [MOper.slots,g3]) _ hv).und_inv
    rw [Region.wanted,g1]
    simp only [yielded_und g2 this]
    rfl
 unfold wpG
 rw [if_neg (by rw [hw]; simp)]
 exact hK' undef w S ρ (.cl .und) hH (Ext.refl _ _ _ _ _ hS)
structure FRN (N:Nat) (w:World) (S:Nat->Prop) (ρ:Rho) (f:Nat->Option AV) (a:Act):Prop where
 size:a.tmps.size=N
 at_:∀ t v,f t=some v->VR w S ρ v (a.tmps.getD t undef)
theorem HRF.cells_ne (hh:HRF w S ρ h) {i:Nat} {ob:Ob} (hi:h i=some ob) (hl:ob.live=true) {b z cap:Nat} (hr:ρ i=some (some b,z,cap)):¬ S b/\b<w.heap.size:=by
 obtain ⟨bk,z1,c1,q1,q2⟩:=hh.at_.ob i ob trivial hi
 rw [hr] at q1
 injection q1 with q1
 obtain ⟨rfl,rfl,rfl⟩:some b=bk/\z=z1/\cap=c1:=by simpa using q1
 cases ob with
 | dead=>cases hl
 | glob g0 cs0=>cases hl
 | cells e1 z1 els1 fl1 =>
  obtain ⟨_,q3,_,C,q4,_⟩:=q2
  exact ⟨q3,(Array.getElem?_eq_some_iff.1 q4).1⟩
 | lp r1 Fl1 =>
  obtain ⟨b1,e1,q3,q4,_⟩:=q2
  injection e1 with e1; subst e1
  exact ⟨q3,(Array.getElem?_eq_some_iff.1 q4).1⟩
 | fm kvs =>
  obtain ⟨b1,es,clk,e1,q3,q4,_⟩:=q2
  injection e1 with e1; subst e1
  exact ⟨q3,(Array.getElem?_eq_some_iff.1 q4).1⟩
 | mset ks =>
  obtain ⟨b1,es,clk,e1,q3,q4,_⟩:=q2
  injection e1 with e1; subst e1
  exact ⟨q3,(Array.getElem?_eq_some_iff.1 q4).1⟩
theorem frame_step {rd wr:List Nat} {H1:List (Nat×Ob)} (hh:HRF w S ρ h) (hag:∀ i,i∈rd\/i∈wr->get H i=h i)
  (hoff:∀ i,i ∉ wr->get H1 i=get H i) (hon:∀ i,i∈wr->(get H1 i).isSome=true) (hpost:HRi (fun i=>i∈rd\/i∈wr) w' S' ρ' H1)
  (hext:Ext w S (Jb ρ H fun i=>i∈rd\/i∈wr) ρ w' S' (Jb ρ' H1 fun i=>i∈rd\/i∈wr) ρ' (fun i=>i∈wr/\get H i=none)) :
  HRF w' S' ρ' (fun i=>if i∈wr then get H1 i else h i)/\Ext w S (LiveF ρ h fun _=>True) ρ w' S' (LiveF ρ' (fun i=>if i∈wr then get H1 i else h i) fun _=>True) ρ' (fun i=>h i=none) ∧
   (∀ v c,VR w S ρ v c->VR w' S' ρ' v c):=by
 have hsame:∀ i,i∈rd->i ∉ wr->get H1 i=h i:=fun i h1 h2=>(hoff i h2).trans (hag i (.inl h1))
 have hdisS:∀ b,S b->¬ Jb ρ H (fun i=>i∈rd\/i∈wr) b:=fun b hs ⟨i,ob,z,cap,hI,hg,hl,hr⟩=>by
  rw [hag i hI] at hg
  exact (hh.cells_ne hg hl hr).1 hs
 have hcell:=hext.cells hdisS
 have hρ:∀ i,¬ (i∈wr/\get H i=none)->ρ' i=ρ i:=hext.rho
 have hρx:∀ i x,ρ i=some x->ρ' i=some x:=fun i x hx=>by
  rw [hρ i fun ⟨h1,h2⟩=>by rw [hag i (.inr h1)] at h2; rw [hh.dom i h2] at hx; cases hx]; exact hx
 have hold:∀ i,¬ (i∈rd\/i∈wr)->ρ' i=ρ i:=fun i hi=>hρ i fun ⟨h1,_⟩=>hi (.inr h1)
 -- the other objects' blocks are not touched
 have far:∀ i ob b z cap,¬ (i∈rd\/i∈wr)->h i=some ob->ob.live=true->ρ i=some (some b,z,cap)->¬ Jb ρ H (fun i=>i∈rd\/i∈wr) b:=fun i ob b z cap hi hg hl hr ⟨k,ob',z',cap',hI,hg',hl',hr'⟩=>by
  rw [hag k hI] at hg'
  exact hh.at_.dis i k ob ob' b z z' cap cap' trivial trivial (fun e=>hi (by rw [e]; exact hI)) hg hg' hl hl' hr hr'
 have touched:∀ i ob,(i∈rd\/i∈wr)->(if i∈wr then get H1 i else h i)=some ob->get H1 i=some ob:=fun i ob hi hg=>by
  by_cases hw:i∈wr
  ·rwa [if_pos hw] at hg
  ·rw [if_neg hw] at hg
   rw [hsame i (hi.resolve_right hw) hw]; exact hg
 have untouched:∀ i ob,¬ (i∈rd\/i∈wr)->(if i∈wr then get H1 i else h i)=some ob->h i=some ob:=fun i ob hi hg=>by
  rwa [if_neg fun hw=>hi (.inr hw)] at hg
 have liveI:∀ b,Jb ρ' H1 (fun i=>i∈rd\/i∈wr) b->Jb ρ H (fun i=>i∈rd\/i∈wr) b\/w.heap.size<=b:=hext.own
 have mixed:∀ i k oi ok b z1 z2 c1 c2,(i∈rd\/i∈wr)->¬ (k∈rd\/k∈wr)->get H1 i=some oi->h k=some ok->oi.live=true->ok.live=true->ρ' i=some (some b,z1,c1)->ρ' k=some (some b,z2,c2)->False :=
  fun i k oi ok b z1 z2 c1 c2 hi hk hgi hgk hli hlk hri hrk=>by
   rw [hold k hk] at hrk
   rcases liveI b ⟨i,oi,z1,c1,hi,hgi,hli,hri⟩ with h1 | h1
   ·exact far k ok b z2 c2 hk hgk hlk hrk h1
   ·have:=(hh.cells_ne hgk hlk hrk).2; omega
 refine ⟨⟨hext.size,fun i hi=>?_,fun i ob _ hg=>?_,fun i k oi ok b z1 z2 c1 c2 _ _ hne hgi hgk hli hlk hri hrk=>?_⟩,⟨hext.keep.mono fun b hb=>?_,hext.sub,fun b hb=>(hext.fresh b hb).imp id fun h=>h.imp (fun ⟨i,ob,z,cap,hI,hg,hl,hr⟩=>⟨i,ob,z,cap,trivial,by rw [← hag i hI]; exact hg,hl,hr⟩) id,hext.size,fun b hb=>?_,fun i hi=>hρ i fun ⟨h1,h2⟩=>hi (by rw [hag i (.inr h1)] at h2; exact h2)⟩,
  fun v c hv=>hv.mono hext.sub hcell hρx⟩
 ·by_cases hw:i∈wr
  ·have:=hon i hw
   rw [if_pos hw] at hi
   rw [hi] at this; cases this
  ·rw [if_neg hw] at hi
   rw [hρ i fun ⟨h1,_⟩=>hw h1]; exact hh.dom i hi
 ·by_cases hI:i∈rd\/i∈wr
  ·exact hpost.ob i ob hI (touched i ob hI hg)
  ·have hg':=untouched i ob hI hg
   obtain ⟨bk,z,cap,q1,q2⟩:=hh.at_.ob i ob trivial hg'
   refine ⟨bk,z,cap,by rw [hold i hI]; exact q1,q2.mono hext.sub hcell hρx fun b hb hl=>?_⟩
   subst hb
   obtain ⟨hnS,hlt⟩:=hh.cells_ne hg' hl q1
   refine ⟨hext.keep.block b hlt (far i ob b z cap hI hg' hl q1),fun hs=>?_⟩
   rcases hext.fresh b hs with h1 | h1 | h1
   ·exact hnS h1
   ·exact far i ob b z cap hI hg' hl q1 h1
   ·omega
 ·by_cases hI:i∈rd\/i∈wr
  ·have gi:=touched i oi hI hgi
   by_cases hK:k∈rd\/k∈wr
   ·exact hpost.dis i k oi ok b z1 z2 c1 c2 hI hK hne gi (touched k ok hK hgk) hli hlk hri hrk
   ·exact mixed i k oi ok b z1 z2 c1 c2 hI hK gi (untouched k ok hK hgk) hli hlk hri hrk
  ·have gi:=untouched i oi hI hgi
   by_cases hK:k∈rd\/k∈wr
   ·exact mixed k i ok oi b z2 z1 c2 c1 hK hI (touched k ok hK hgk) gi hlk hli hrk hri
   ·rw [hold i hI] at hri
    rw [hold k hK] at hrk
    exact hh.at_.dis i k oi ok b z1 z2 c1 c2 trivial trivial hne gi (untouched k ok hK hgk) hli hlk hri hrk
 ·obtain ⟨i,ob,z,cap,hI,hg,hl,hr⟩:=hb
  exact ⟨i,ob,z,cap,trivial,by rw [← hag i hI]; exact hg,hl,hr⟩
 ·obtain ⟨i,ob,z,cap,_,hg,hl,hr⟩:=hb
  by_cases hI:i∈rd\/i∈wr
  ·rcases liveI b ⟨i,ob,z,cap,hI,touched i ob hI hg,hl,hr⟩ with ⟨k,ob',z',cap',hK,hg',hl',hr'⟩ | h1
   ·exact .inl ⟨k,ob',z',cap',trivial,by rw [← hag k hK]; exact hg',hl',hr'⟩
   ·exact .inr h1
  ·rw [hold i hI] at hr
   exact .inl ⟨i,ob,z,cap,trivial,untouched i ob hI hg,hl,hr⟩
theorem put_getD {a:Act} {d t:Nat} {v:Value} (hd:d<a.tmps.size):(a.put (some d) v).tmps.getD t undef=if t=d then v else a.tmps.getD t undef:=by
 simp only [Act.put,Array.getD_eq_getD_getElem?,Array.getElem?_setIfInBounds]
 by_cases h:d=t
 ·subst h; simp [hd]
 ·simp [h,Ne.symm h]
theorem put_size (a:Act) (d:Option Nat) (v:Value):(a.put d v).tmps.size=a.tmps.size:=by
 cases d <;> simp [Act.put]
theorem put_defers (a:Act) (d:Option Nat) (v:Value):(a.put d v).defers=a.defers:=by
 cases d <;> rfl
theorem FRN.put {f:Nat->Option AV} {a:Act} (h:FRN N w S ρ f a) (hm:∀ v c,VR w S ρ v c->VR w' S' ρ' v c) {dst:Option Nat} (hd:dstOK N dst=true) {v:AV} {cv:Value} (hv:VR w' S' ρ' v cv) :
  FRN N w' S' ρ' (fun t=>if some t=dst then some v else f t) (a.put dst cv):=by
 refine ⟨by rw [put_size]; exact h.size,fun t u hu=>?_⟩
 cases dst with
 | none=>simp at hu; exact hm _ _ (h.at_ t u hu)
 | some d =>
  have hdN:d<a.tmps.size:=by rw [h.size]; simpa [dstOK] using hd
  rw [put_getD hdN]
  by_cases htd:t=d
  ·subst htd; simp at hu; subst hu; rw [if_pos rfl]; exact hv
  ·simp [htd] at hu; rw [if_neg htd]; exact hm _ _ (h.at_ t u hu)
end
end Go.Proofs.YthmbjgnjfjjibaaGreatDoor
namespace Go.Proofs.YthmbjgnjfjjibaaGreatDoor
open Go.RowKit
set_option maxRecDepth 100000
abbrev Fp:=List Nat×List Nat
inductive SeqM (P:Program) (N:Nat) (ops:Array Oper):List Oper->List MOper->List (Nat×AV)->List (Nat×Ob)->List Fp->List (Nat×AV)->List (Nat×Ob)->Prop where
 | nil (F:List (Nat×AV)) (H:List (Nat×Ob)):SeqM P N ops [] [] F H [] F H
 | cons {o:Oper} {mo:MOper} {l:List Oper} {ml:List MOper} {F:List (Nat×AV)} {H:List (Nat×Ob)} {rd wr:List Nat} {v:AV} {H1:List (Nat×Ob)} {fps:List Fp} {F':List (Nat×AV)} {H':List (Nat×Ob)}
   (hc:QN P N ops o=some mo) (hs:StepM P N ops o mo F H rd wr v H1) (h:SeqM P N ops l ml (putF F mo.dst v) H1 fps F' H'):SeqM P N ops (o::l) (mo::ml) F H ((rd,wr)::fps) F' H'
abbrev All:Nat->Prop:=fun _=>True
abbrev ExtH (w:World) (S:Nat->Prop) (ρ:Rho) (h:Nat->Option Ob) (w':World) (S':Nat->Prop) (ρ':Rho) (h':Nat->Option Ob):Prop :=
 Ext w S (LiveF ρ h All) ρ w' S' (LiveF ρ' h' All) ρ' (fun i=>h i=none)
variable {h:Nat->Option Ob} {S:Nat->Prop} {ρ:Rho} {w:World}
theorem ExtH.trans {w1 w2:World} {S1 S2:Nat->Prop} {ρ1 ρ2:Rho} {h1 h2:Nat->Option Ob} (e1:ExtH w S ρ h w1 S1 ρ1 h1) (e2:ExtH w1 S1 ρ1 h1 w2 S2 ρ2 h2) (hn:∀ i,h1 i=none->h i=none) :
  ExtH w S ρ h w2 S2 ρ2 h2 :=
 ⟨e1.keep.trans e2.keep e1.own,fun b hb=>e2.sub b (e1.sub b hb),fun b hb=>(e2.fresh b hb).elim (fun h=>e1.fresh b h) fun h=>h.elim (fun h=>.inr (e1.own b h)) fun h=>.inr (.inr (Nat.le_trans e1.keep.size h)),e2.size,
  fun b hb=>(e2.own b hb).elim (fun h=>e1.own b h) fun h=>.inr (Nat.le_trans e1.keep.size h),fun i hi=>(e2.rho i fun h=>hi (hn i h)).trans (e1.rho i hi)⟩
variable {F:List (Nat×AV)}
theorem get_putF {dst:Option Nat} {v:AV} (t:Nat):get (putF F dst v) t=if some t=dst then some v else get F t:=by
 cases dst with
 | none=>simp [putF]
 | some d =>
  simp only [putF,get]
  by_cases h:d=t
  ·subst h; simp
  ·simp [h,Ne.symm h]
variable {ops:Array Oper} {H H1:List (Nat×Ob)} {rd wr:List Nat} {N:Nat} {P:Program}
theorem StepM.get_ {o:Oper} {mo:MOper} {v:AV} (h:StepM P N ops o mo F H rd wr v H1) :
  (fun i=>if i∈wr then get H1 i else get H i)=get H1:=by
 funext i
 by_cases hw:i∈wr
 ·rw [if_pos hw]
 ·rw [if_neg hw,h.off i hw]
variable {Q:Exit->Act->World->Prop} {r:Option Nat}
theorem step_conf {o:Oper} {mo:MOper} {v:AV} (hc:QN P N ops o=some mo)
  (hs:StepM P N ops o mo F H rd wr v H1) {a:Act} {f:Nat->Option AV} (hF:FRN N w S ρ f a) (hH:HRF w S ρ h)
  (hf:∀ t,t∈mo.slots->get F t=f t) (hh:∀ i,i∈rd\/i∈wr->get H i=h i) {K:Act->World->Prop} (hout:¬ LetsOut Q)
  (hK:∀ S' ρ' a' w',FRN N w' S' ρ' (fun t=>if some t=mo.dst then some v else f t) a'->a'.defers=a.defers->HRF w' S' ρ' (fun i=>if i∈wr then get H1 i else h i) →
   ExtH w S ρ h w' S' ρ' (fun i=>if i∈wr then get H1 i else h i)->K a' w'):wpG P r ops Q o K a w:=by
 obtain ⟨_,hd,hdok,_⟩:=Q3 hc
 refine hs.gt r S ρ a w Q K hout hF.size (fun t ht u hu=>hF.at_ t u (by rw [← hf t ht]; exact hu)) hH.hS
  ⟨fun i ob hi hg=>hH.at_.ob i ob trivial (by rw [← hh i hi]; exact hg),fun i j oi oj b z z' c c' hi hj hne hgi hgj=>hH.at_.dis i j oi oj b z z' c c' trivial trivial hne (by rw [← hh i hi]; exact hgi) (by rw [← hh j hj]; exact hgj)⟩
  (fun i hi hn=>hH.dom i (by rw [← hh i (.inr hi)]; exact hn)) fun cv w' S' ρ' hv hpost hext=>?_
 obtain ⟨g1,g2,g3⟩:=frame_step hH hh hs.off hs.on hpost hext
 rw [hd]
 exact hK S' ρ' _ w' (hF.put g3 hdok hv) (put_defers _ _ _) g1 g2
theorem wpListIn_G {o:Oper} {l:List Oper} {a:Act} (h:wpG P r ops Q o (wpListIn (Fc r) 0 P ops Q l) a w):wpListIn (Fc r) 0 P ops Q (o::l) a w:=by
 unfold wpG at h
 unfold wpListIn
 split
 ·rename_i hw; rw [if_pos hw] at h; exact h
 ·rename_i hw; rw [if_neg hw] at h; exact ⟨fun f _=>Fc_fn r f,h⟩
theorem seq_wpList {l:List Oper} {ml:List MOper} {F':List (Nat×AV)} {H':List (Nat×Ob)} {fps:List Fp} (hs:SeqM P N ops l ml F H fps F' H') :
  ∀ {r:Option Nat} {S:Nat->Prop} {ρ:Rho} {a:Act} {w:World} {Q:Exit->Act->World->Prop},¬ LetsOut Q->FRN N w S ρ (get F) a->HRF w S ρ (get H) →
  (∀ S' ρ' a' w',FRN N w' S' ρ' (get F') a'->a'.defers=a.defers->HRF w' S' ρ' (get H')->ExtH w S ρ (get H) w' S' ρ' (get H')->Q .normal a' w')->wpListIn (Fc r) 0 P ops Q l a w:=by
 induction hs with
 | nil F H =>
  intro r S ρ a w Q hout hF hH hQ
  exact hQ S ρ a w hF rfl hH (Ext.refl _ _ _ _ _ hH.hS)
 | cons hc hs _ ih =>
  intro r S ρ a w Q hout hF hH hQ
  rename_i o mo l ml F H rd wr v H1 fps F' H' hrest
  refine wpListIn_G ?_
  refine step_conf hc hs hF hH (fun _ _=>rfl) (fun _ _=>rfl) hout fun S1 ρ1 a1 w1 hF1 hd1 hH1 hE1=>?_
  rw [hs.get_] at hH1 hE1
  have hF1':FRN N w1 S1 ρ1 (get (putF F mo.dst v)) a1:=by
   have e:get (putF F mo.dst v)=fun t=>if some t=mo.dst then some v else get F t:=funext get_putF
   rw [e]; exact hF1
  refine ih hout hF1' hH1 fun S2 ρ2 a2 w2 hF2 hd2 hH2 hE2=>hQ S2 ρ2 a2 w2 hF2 (hd2.trans hd1) hH2 (ExtH.trans hE1 hE2 fun i hi=>?_)
  by_cases hw:i∈wr
  ·have:=hs.on i hw; rw [hi] at this; cases this
  ·rw [← hs.off i hw]; exact hi
def maskStep (acc:List Nat) (p:List Nat):Nat:=p.foldl (fun s k=>s ||| (2^k ||| acc.getD k 0)) 0
def masks:List (List Nat)->List Nat->List Nat
 | [],acc=>acc
 | p::ps,acc=>masks ps (acc++[maskStep acc p])
def overlap (a b:List Nat):Bool:=a.any fun x=>b.contains x
def Xw (x y:MOper×Fp):Bool :=
 (match x.1.dst with
  | some d=>y.1.slots.contains d||y.1.dst == some d
  | none=>false) ||
 (match y.1.dst with
  | some d=>x.1.slots.contains d
  | none=>false)||overlap x.2.2 (y.2.1++y.2.2)||overlap x.2.1 y.2.2
def okRow (ms:List Nat) (L:List (MOper×Fp)) (j:Nat) (y:MOper×Fp):Bool :=
 y.1.pre.all (fun k=>decide (k<j))&&(L.zipIdx.all fun (x,k) => !(decide (k<j)) || !Xw x y||(ms.getD j 0).testBit k)
def JB (L:List (MOper×Fp)):Bool :=
 let ms:=masks (L.map (·.1.pre)) []
 L.zipIdx.all fun (y,j)=>okRow ms L j y
theorem maskStep_spec {E:Nat->Prop} {acc:List Nat} (hacc:∀ k b,(acc.getD k 0).testBit b=true->E k->E b):∀ (p:List Nat) (s:Nat),(∀ b,s.testBit b=true->E b)->(∀ k,k∈p->E k) →
  ∀ b,(p.foldl (fun s k=>s ||| (2^k ||| acc.getD k 0)) s).testBit b=true->E b
 | [],s,hs,_,b,hb=>hs b hb
 | k::p,s,hs,hp,b,hb=>by
  simp only [List.foldl_cons] at hb
  refine maskStep_spec hacc p _ (fun c hc=>?_) (fun x hx=>hp x (by simp [hx])) b hb
  simp only [Nat.testBit_or,Bool.or_eq_true] at hc
  rcases hc with hc | hc | hc
  ·exact hs c hc
  ·have:c=k:=by
    rw [Nat.testBit_two_pow] at hc; have hc2:k=c:=by simpa using hc
    exact hc2.symm
   subst this; exact hp c (by simp)
  ·exact hacc k c hc (hp k (by simp))
theorem masks_spec {E:Nat->Prop}:∀ (ps:List (List Nat)) (acc:List Nat),(∀ k b,(acc.getD k 0).testBit b=true->E k->E b) →
  (∀ j p,ps[j]?=some p->E (acc.length+j)->∀ k,k∈p->E k)->∀ j b,((masks ps acc).getD j 0).testBit b=true->E j->E b
 | [],acc,hacc,_,j,b,hb,hE=>hacc j b hb hE
 | p::ps,acc,hacc,hp,j,b,hb,hE=>by
  simp only [masks] at hb
  refine masks_spec ps (acc++[maskStep acc p]) (fun k c hc hk=>?_) (fun i q hq hE k hk=>?_) j b hb hE
  ·by_cases hkl:k<acc.length
   ·rw [List.getD_eq_getElem?_getD,List.getElem?_append_left hkl,← List.getD_eq_getElem?_getD] at hc
    exact hacc k c hc hk
   ·by_cases hke:k=acc.length
    ·subst hke
     have e:(acc++[maskStep acc p]).getD acc.length 0=maskStep acc p:=by simp [List.getD]
     rw [e] at hc
     exact maskStep_spec hacc p 0 (fun b hb=>by simp at hb) (hp 0 p rfl (by simpa using hk)) c hc
    ·have e:(acc++[maskStep acc p]).getD k 0=0:=by
      rw [List.getD_eq_getElem?_getD,List.getElem?_eq_none (by simp; omega)]; rfl
     rw [e] at hc; simp at hc
  ·refine hp (i+1) q (by simpa using hq) ?_ k hk
   have:(acc++[maskStep acc p]).length+i=acc.length+(i+1):=by simp; omega
   rwa [this] at hE
end Go.Proofs.YthmbjgnjfjjibaaGreatDoor
namespace Go.Proofs.YthmbjgnjfjjibaaGreatDoor
open Go.RowKit
set_option maxRecDepth 100000
structure RunD (P:Program) (N:Nat) (ops:Array Oper) (l:List Oper) (L:List (MOper×Fp)) (Fs:Nat->List (Nat×AV)) (Hs:Nat->List (Nat×Ob)) (vs:Nat->AV):Prop where
 len:L.length=l.length
 step:∀ j y,L[j]?=some y->∃ o,l[j]?=some o/\QN P N ops o=some y.1/\StepM P N ops o y.1 (Fs j) (Hs j) y.2.1 y.2.2 (vs j) (Hs (j+1))/\Fs (j+1)=putF (Fs j) y.1.dst (vs j)
theorem SeqM.data {P:Program} {N:Nat} {ops:Array Oper} {l:List Oper} {ml:List MOper} {F F':List (Nat×AV)} {H H':List (Nat×Ob)} {fps:List Fp} (hs:SeqM P N ops l ml F H fps F' H') :
  ml.length=l.length/\fps.length=l.length/\∃ Fs Hs vs,Fs 0=F/\Hs 0=H/\Fs l.length=F'/\Hs l.length=H'/\RunD P N ops l (ml.zip fps) Fs Hs vs:=by
 induction hs with
 | nil F H=>exact ⟨rfl,rfl,fun _=>F,fun _=>H,fun _=>.und,rfl,rfl,rfl,rfl,rfl,fun j y h=>by simp at h⟩
 | cons hc hs _ ih =>
  rename_i o mo l ml F H rd wr v H1 fps F' H' hrest
  obtain ⟨e1,e2,Fs,Hs,vs,f0,h0,fn,hn,hr⟩:=ih
  refine ⟨by simp [e1],by simp [e2],fun j=>match j with | 0=>F | j+1=>Fs j,fun j=>match j with | 0=>H | j+1=>Hs j,fun j=>match j with | 0=>v | j+1=>vs j,rfl,rfl,fn,hn,by simp [e1,e2],fun j y hj=>?_⟩
  cases j with
  | zero =>
   simp at hj; subst hj
   exact ⟨o,rfl,hc,by simpa [h0] using hs,by simpa using f0⟩
  | succ j =>
   obtain ⟨o',g1,g2,g3,g4⟩:=hr.step j y (by simpa using hj)
   exact ⟨o',by simpa using g1,g2,by simpa using g3,by simpa using g4⟩
variable {K K':Act->World->Prop} {Q:Exit->Act->World->Prop} {r:Option Nat} {w:World}
variable {listed:Array Bool}
variable {h:Nat->Option Ob}
variable {E:Nat->Prop}
section
variable {P:Program} {N:Nat} {ops:Array Oper} {l:List Oper} {L:List (MOper×Fp)} {Fs:Nat->List (Nat×AV)} {Hs:Nat->List (Nat×Ob)} {vs:Nat->AV}
theorem RunD.at_ (hr:RunD P N ops l L Fs Hs vs) {j:Nat} (hj:j<l.length):∃ y,L[j]?=some y:=⟨L[j]'(by rw [hr.len]; exact hj),List.getElem?_eq_getElem _⟩
theorem RunD.slot_same (hr:RunD P N ops l L Fs Hs vs) {t a:Nat}:∀ (n:Nat),a+n<=l.length->(∀ k y,a<=k->k<a+n->L[k]?=some y->y.1.dst≠some t)->get (Fs (a+n)) t=get (Fs a) t
 | 0,_,_=>rfl
 | n+1,hn,h=>by
  obtain ⟨y,hy⟩:=hr.at_ (j:=a+n) (by omega)
  obtain ⟨o,_,_,_,e⟩:=hr.step _ y hy
  rw [show a+(n+1)=a+n+1 by omega,e,get_putF,if_neg fun h'=>h (a+n) y (by omega) (by omega) hy h'.symm]
  exact RunD.slot_same hr n (by omega) fun k y h1 h2=>h k y h1 (by omega)
theorem RunD.name_same (hr:RunD P N ops l L Fs Hs vs) {i a:Nat}:∀ (n:Nat),a+n<=l.length->(∀ k y,a<=k->k<a+n->L[k]?=some y->i ∉ y.2.2)->get (Hs (a+n)) i=get (Hs a) i
 | 0,_,_=>rfl
 | n+1,hn,h=>by
  obtain ⟨y,hy⟩:=hr.at_ (j:=a+n) (by omega)
  obtain ⟨o,_,_,hs,_⟩:=hr.step _ y hy
  rw [show a+(n+1)=a+n+1 by omega,hs.off i (h (a+n) y (by omega) (by omega) hy)]
  exact RunD.name_same hr n (by omega) fun k y h1 h2=>h k y h1 (by omega)
theorem okDraw_pair (h:JB L=true) {j k:Nat} {x y:MOper×Fp} (hk:L[k]?=some x) (hj:L[j]?=some y) (hkj:k<j) (hc:Xw x y=true) :
  ((masks (L.map (·.1.pre)) []).getD j 0).testBit k=true:=by
 unfold JB at h
 have h1:=List.all_eq_true.1 h (y,j) (by rw [List.mk_mem_zipIdx_iff_getElem?]; exact hj)
 simp only [okRow,Bool.and_eq_true] at h1
 have h2:=List.all_eq_true.1 h1.2 (x,k) (by rw [List.mk_mem_zipIdx_iff_getElem?]; exact hk)
 simpa [hkj,hc] using h2
theorem okDraw_pre (h:JB L=true) {j:Nat} {y:MOper×Fp} (hj:L[j]?=some y):∀ k,k∈y.1.pre->k<j:=by
 unfold JB at h
 have h1:=List.all_eq_true.1 h (y,j) (by rw [List.mk_mem_zipIdx_iff_getElem?]; exact hj)
 simp only [okRow,Bool.and_eq_true] at h1
 intro k hk
 simpa using List.all_eq_true.1 h1.1 k hk
def Shut (L:List (MOper×Fp)) (E:Nat->Prop):Prop:=∀ j y,L[j]?=some y->E j->∀ k,k∈y.1.pre->E k
theorem Shut.mask (h:Shut L E) {j b:Nat} (hb:((masks (L.map (·.1.pre)) []).getD j 0).testBit b=true) (hE:E j):E b:=by
 refine masks_spec (E:=E) (L.map (·.1.pre)) [] (fun k c hc _=>by simp at hc) (fun i p hp hE k hk=>?_) j b hb hE
 rw [List.getElem?_map] at hp
 cases hy:L[i]? with
 | none=>rw [hy] at hp; cases hp
 | some y =>
  rw [hy] at hp
  injection hp with hp; subst hp
  exact h i y hy (by simpa using hE) k hk
theorem Shut.before (h:Shut L E) (hok:JB L=true) {j k:Nat} {x y:MOper×Fp} (hk:L[k]?=some x) (hj:L[j]?=some y) (hkj:k<j) (hc:Xw x y=true) (hE:E j):E k :=
 h.mask (okDraw_pair hok hk hj hkj hc) hE
structure InvD (l:List Oper) (L:List (MOper×Fp)) (Fs:Nat->List (Nat×AV)) (Hs:Nat->List (Nat×Ob)) (E:Nat->Prop) (f:Nat->Option AV) (h:Nat->Option Ob):Prop where
 shut:Shut L E
 slot:∀ t m,m<=l.length->(∀ k y,L[k]?=some y->y.1.dst=some t->(E k ↔ k<m))->f t=get (Fs m) t
 name:∀ i m,m<=l.length->(∀ k y,L[k]?=some y->i∈y.2.2->(E k ↔ k<m))->h i=get (Hs m) i
theorem overlap_mem {a b:List Nat} {x:Nat} (h1:x∈a) (h2:x∈b):overlap a b=true:=List.any_eq_true.2 ⟨x,h1,by simpa using h2⟩
theorem clashes_dr {x y:MOper×Fp} {t:Nat} (h1:x.1.dst=some t) (h2:t∈y.1.slots\/y.1.dst=some t):Xw x y=true:=by
 unfold Xw
 rw [h1]
 rcases h2 with h2 | h2 <;> simp [h2]
theorem clashes_rd {x y:MOper×Fp} {t:Nat} (h1:t∈x.1.slots) (h2:y.1.dst=some t):Xw x y=true:=by
 unfold Xw
 rw [h2]
 simp [h1]
theorem clashes_w {x y:MOper×Fp} {i:Nat} (h1:i∈x.2.2) (h2:i∈y.2.1\/i∈y.2.2):Xw x y=true:=by
 unfold Xw
 have:=overlap_mem (b:=y.2.1++y.2.2) h1 (List.mem_append.2 h2)
 simp [this]
theorem clashes_r {x y:MOper×Fp} {i:Nat} (h1:i∈x.2.1) (h2:i∈y.2.2):Xw x y=true:=by
 unfold Xw
 have:=overlap_mem h1 h2
 simp [this]
theorem InvD.ready {f:Nat->Option AV} (inv:InvD l L Fs Hs E f h) (hok:JB L=true) {j:Nat} {y:MOper×Fp} (hj:L[j]?=some y) (hjl:j<l.length) (hE:¬ E j)
  (hpre:∀ k,k∈y.1.pre->E k):(∀ t,t∈y.1.slots->f t=get (Fs j) t)/\∀ i,i∈y.2.1\/i∈y.2.2->h i=get (Hs j) i:=by
 -- E with j is shut,too
 have hshut:Shut L (fun k=>E k\/k=j):=fun k x hx hk q hq=>by
  rcases hk with hk | rfl
  ·exact .inl (inv.shut k x hx hk q hq)
  ·rw [hj] at hx; injection hx with hx; subst hx; exact .inl (hpre q hq)
 have before:∀ k x,L[k]?=some x->k<j->Xw x y=true->E k:=fun k x hx hkj hc=>(hshut.before hok hx hj hkj hc (.inr rfl)).resolve_right (by omega)
 have after:∀ k x,L[k]?=some x->j<k->Xw y x=true->¬ E k:=fun k x hx hjk hc hk=>hE (inv.shut.before hok hj hx hjk hc hk)
 refine ⟨fun t ht=>inv.slot t j (by omega) fun k x hx hd=>?_,fun i hi=>inv.name i j (by omega) fun k x hx hd=>?_⟩
 ·rcases Nat.lt_trichotomy k j with h1 | h1 | h1
  ·exact ⟨fun _=>h1,fun _=>before k x hx h1 (clashes_dr hd (.inl ht))⟩
  ·subst h1; exact ⟨fun h=>absurd h hE,fun h=>absurd h (by omega)⟩
  ·exact ⟨fun h=>absurd h (after k x hx h1 (clashes_rd ht hd)),fun h=>by omega⟩
 ·rcases Nat.lt_trichotomy k j with h1 | h1 | h1
  ·exact ⟨fun _=>h1,fun _=>before k x hx h1 (clashes_w hd hi)⟩
  ·subst h1; exact ⟨fun h=>absurd h hE,fun h=>absurd h (by omega)⟩
  ·refine ⟨fun h=>absurd h (after k x hx h1 ?_),fun h=>by omega⟩
   rcases hi with hi | hi
   ·exact clashes_r hi hd
   ·exact clashes_w hi (.inr hd)
theorem InvD.step (hr:RunD P N ops l L Fs Hs vs) {E':Nat->Prop} {f:Nat->Option AV} (inv:InvD l L Fs Hs E f h) (hok:JB L=true) {j:Nat} {y:MOper×Fp} (hj:L[j]?=some y) (hjl:j<l.length) (hE:¬ E j)
  (hpre:∀ k,k∈y.1.pre->E k) (hE':∀ k,E' k ↔ E k\/k=j) :
  InvD l L Fs Hs E' (fun t=>if some t=y.1.dst then some (vs j) else f t) (fun i=>if i∈y.2.2 then get (Hs (j+1)) i else h i):=by
 have hshut:Shut L E':=fun k x hx hk q hq=>by
  rw [hE'] at hk ⊢
  rcases hk with hk | rfl
  ·exact .inl (inv.shut k x hx hk q hq)
  ·rw [hj] at hx; injection hx with hx; subst hx; exact .inl (hpre q hq)
 have after:∀ k x,L[k]?=some x->j<k->Xw y x=true->¬ E k:=fun k x hx hjk hc hk=>hE (inv.shut.before hok hj hx hjk hc hk)
 have hjE':E' j:=(hE' j).2 (.inr rfl)
 obtain ⟨o,_,_,hs,hF⟩:=hr.step j y hj
 refine ⟨hshut,fun t m hm hw=>?_,fun i m hm hw=>?_⟩
 ·by_cases ht:some t=y.1.dst
  ·rw [if_pos ht]
   have hjm:j<m:=(hw j y hj ht.symm).1 hjE'
   have:=hr.slot_same (t:=t) (a:=j+1) (m-(j+1)) (by omega) fun k x h1 h2 hx hd=>by
    have hEk:E' k:=(hw k x hx hd).2 (by omega)
    rw [hE'] at hEk
    rcases hEk with hEk | hEk
    ·exact after k x hx (by omega) (clashes_dr ht.symm (.inr hd)) hEk
    ·omega
   rw [show j+1+(m-(j+1))=m by omega] at this
   rw [this,hF,get_putF,if_pos ht]
  ·rw [if_neg ht]
   refine inv.slot t m hm fun k x hx hd=>?_
   rw [← hw k x hx hd,hE']
   refine ⟨.inl,fun h=>h.resolve_right fun e=>?_⟩
   subst e
   rw [hj] at hx; injection hx with hx; subst hx; exact ht hd.symm
 ·by_cases hi:i∈y.2.2
  ·rw [if_pos hi]
   have hjm:j<m:=(hw j y hj hi).1 hjE'
   have:=hr.name_same (i:=i) (a:=j+1) (m-(j+1)) (by omega) fun k x h1 h2 hx hd=>by
    have hEk:E' k:=(hw k x hx hd).2 (by omega)
    rw [hE'] at hEk
    rcases hEk with hEk | hEk
    ·exact after k x hx (by omega) (clashes_w hi (.inr hd)) hEk
    ·omega
   rw [show j+1+(m-(j+1))=m by omega] at this
   exact this.symm
  ·rw [if_neg hi]
   refine inv.name i m hm fun k x hx hd=>?_
   rw [← hw k x hx hd,hE']
   refine ⟨.inl,fun h=>h.resolve_right fun e=>?_⟩
   subst e
   rw [hj] at hx; injection hx with hx; subst hx; exact hi hd
theorem unlisted_false {i:Nat} (h:listed.getD i true=false):listed.getD i false=false:=by
 by_cases hi:i<listed.size
 ·simp [hi] at h ⊢; exact h
 ·simp [hi]
theorem unlisted_true {i:Nat} (hi:i<listed.size) (h:listed.getD i false=false):listed.getD i true=false:=by
 simp [hi] at h ⊢; exact h
theorem Jd (m j:Nat):(Array.replicate m false).getD j false=false:=by
 by_cases h:j<m <;> simp [h]
def left (n:Nat) (listed:Array Bool):Nat:=((List.range n).filter fun k => !listed.getD k true).length
theorem left_set {n j:Nat} (hj:j<n) (h:listed.getD j true=false):left n (listed.setIfInBounds j true)<left n listed:=by
 unfold left
 have hjl:j<listed.size:=by
  rcases Nat.lt_or_ge j listed.size with h' | h'
  ·exact h'
  ·simp [Array.getElem?_eq_none h'] at h
 have e:∀ k,(!(listed.setIfInBounds j true).getD k true)=((!listed.getD k true)&&decide (k≠j)):=fun k=>by
  by_cases hk:j=k
  ·subst hk; simp [hjl]
  ·rw [getD_set_ne true hk]; simp [Ne.symm hk]
 have e2:(List.range n).filter (fun k => !(listed.setIfInBounds j true).getD k true)=((List.range n).filter fun k => !listed.getD k true).filter (fun k=>decide (k≠j)):=by
  rw [List.filter_filter]
  congr 1
  funext k
  rw [e k,Bool.and_comm]
 rw [e2]
 refine List.length_filter_lt_length_iff_exists.2 ⟨j,?_,by simp⟩
 rw [List.mem_filter]
 exact ⟨List.mem_range.2 hj,by rw [h]; rfl⟩
def wpOpC (P:Program) (r:Option Nat) (ops:Array Oper) (Q:Exit->Act->World->Prop) (i:Nat) (K:Act->World->Prop) (a:Act) (w:World):Prop :=
 match ops[i]? with
 | none=>K a w
 | some o=>wpG P r ops Q o K a w
def wpAnyC (P:Program) (r:Option Nat) (md:Region.Mode) (ops:Array Oper) (Q:Exit->Act->World->Prop):Nat->Array Bool->Act->World->Prop
 | 0,listed,a,w=>Region.ready md ops listed=[]/\Q .normal a w
 | fuel+1,listed,a,w =>
  (Region.ready md ops listed=[]->Q .normal a w) ∧
  ∀ i∈Region.ready md ops listed,wpOpC P r ops Q i (wpAnyC P r md ops Q fuel (listed.setIfInBounds i true)) a w
theorem wpG_mono {P:Program} {ops:Array Oper} {o:Oper} (h:∀ a w,K a w->K' a w) {a:Act} (hh:wpG P r ops Q o K a w):wpG P r ops Q o K' a w:=by
 unfold wpG at hh ⊢
 split
 ·rename_i hw; rw [if_pos hw] at hh; exact Oper.wpIn_mono h hh
 ·rename_i hw; rw [if_neg hw] at hh; exact h _ _ hh
theorem wpOpsC_cons {P:Program} {ops:Array Oper} {i:Nat} {l:List Nat} {a:Act} (h:wpOpC P r ops Q i (wpOpsIn (Fc r) 0 P ops Q l) a w):wpOpsIn (Fc r) 0 P ops Q (i::l) a w:=by
 unfold wpOpC at h
 unfold wpOpsIn
 cases ho:ops[i]? with
 | none=>rw [ho] at h; exact h
 | some o =>
  rw [ho] at h
  change wpG P r ops Q o _ a w at h
  unfold wpG at h
  show if _ then _ else _
  split
  ·rename_i hw; rw [if_pos hw] at h; exact h
  ·rename_i hw; rw [if_neg hw] at h; exact ⟨fun f _=>Fc_fn r f,h⟩
theorem wpOpC_mono {P:Program} {ops:Array Oper} {i:Nat} (h:∀ a w,K a w->K' a w) {a:Act} (hh:wpOpC P r ops Q i K a w):wpOpC P r ops Q i K' a w:=by
 unfold wpOpC at hh ⊢
 cases ho:ops[i]? with
 | none=>rw [ho] at hh; exact h _ _ hh
 | some o=>rw [ho] at hh; exact wpG_mono h hh
theorem wpAnyC_sound {P:Program} {md:Region.Mode} {ops:Array Oper}:∀ (fuel t:Nat) (listed:Array Bool) (a:Act) (w:World),wpAnyC P r md ops Q fuel listed a w →
  wpOpsIn (Fc r) 0 P ops Q (Region.linearise.go md ops fuel t listed []) a w:=by
 intro fuel
 induction fuel with
 | zero=>intro t listed a w h; simpa [Region.linearise.go,wpOpsIn] using h.2
 | succ fuel ih =>
  intro t listed a w h
  obtain ⟨h₀,h₁⟩:=h
  simp only [Region.linearise.go]
  change wpOpsIn (Fc r) 0 P ops Q (match (Region.ready md ops listed)[t % (Region.ready md ops listed).length]? with
   | some i=>Region.linearise.go md ops fuel (t / (Region.ready md ops listed).length) (listed.setIfInBounds i true) [i]
   | none=>[].reverse) a w
  cases hi:(Region.ready md ops listed)[t % (Region.ready md ops listed).length]? with
  | none =>
   have hnil:Region.ready md ops listed=[]:=by
    cases hr:Region.ready md ops listed with
    | nil=>rfl
    | cons x xs =>
     rw [hr] at hi
     have hlt:t % (x::xs).length<(x::xs).length:=Nat.mod_lt _ (by simp)
     simp at hi
     simp at hlt
     omega
   simpa [wpOpsIn] using h₀ hnil
  | some i =>
   simp only []
   rw [linearise_go_acc,List.reverse_singleton,List.singleton_append]
   exact wpOpsC_cons (wpOpC_mono (fun a w=>ih _ _ a w) (h₁ i (List.mem_of_getElem? hi)))
theorem wpIn_region_any {P:Program} {ops:Array Oper} {id:Nat} {a:Act} (hm:P.follows .mixedOrders=true)
  (h:wpAnyC P r .any ops Q ops.size (Array.replicate ops.size false) a { w with drawn:=w.drawn+1 }):(Code.region id ops true).wpIn (Fc r) 0 P Q a w :=
 wpIn_region_draw fun t=>by
  simp only [Region.schedule,hm,Bool.true_or,if_true]
  exact wpAnyC_sound ops.size t _ a _ h
theorem draw_sound (hr:RunD P N ops l L Fs Hs vs) (hok:JB L=true) (hl:l=ops.toList) (hout:¬ LetsOut Q) :
  ∀ (fuel:Nat) (listed:Array Bool) (a:Act) (w:World) (S:Nat->Prop) (ρ:Rho) (f:Nat->Option AV) (h:Nat->Option Ob),listed.size=l.length->left l.length listed<=fuel →
   InvD l L Fs Hs (fun k=>listed.getD k false=true) f h->FRN N w S ρ f a->HRF w S ρ h →
   (∀ S' ρ' a' w',FRN N w' S' ρ' (get (Fs l.length)) a'->a'.defers=a.defers->HRF w' S' ρ' (get (Hs l.length))->ExtH w S ρ h w' S' ρ' (get (Hs l.length))->Q .normal a' w') →
   wpAnyC P r .any ops Q fuel listed a w:=by
 have hsz:ops.size=l.length:=by rw [hl]; simp
 have hget:∀ j o,l[j]?=some o->ops[j]?=some o:=fun j o h=>by rw [hl,Array.getElem?_toList] at h; exact h
 -- when none is ready,all have run
 have allrun:∀ (listed:Array Bool),listed.size=l.length->Region.ready .any ops listed=[]->∀ k,k<l.length->listed.getD k false=true:=by
  intro listed hls hre k
  induction k using Nat.strongRecOn with
  | _ k ih =>
   intro hk
   obtain ⟨y,hy⟩:=hr.at_ hk
   obtain ⟨o,g1,g2,_⟩:=hr.step k y hy
   obtain ⟨_,_,_,hp,_⟩:=Q3 g2
   cases hb:listed.getD k false with
   | true=>rfl
   | false =>
    have hmem:k∈Region.ready .any ops listed:=mem_ready.2 ⟨unlisted_true (by omega) hb,o,hget k o g1,fun e he hbd=>by
     have hin:e.on∈y.1.pre:=by
      rw [hp]; unfold preOf
      exact List.mem_map.2 ⟨e,List.mem_filter.2 ⟨by simpa using he,hbd⟩,rfl⟩
     have hlt:=okDraw_pre hok hy e.on hin
     exact ih e.on hlt (by omega)⟩
    rw [hre] at hmem; cases hmem
 have finish:∀ (listed:Array Bool) (a:Act) (w:World) (S:Nat->Prop) (ρ:Rho) (f:Nat->Option AV) (h:Nat->Option Ob),listed.size=l.length →
   InvD l L Fs Hs (fun k=>listed.getD k false=true) f h->FRN N w S ρ f a->HRF w S ρ h →
   (∀ S' ρ' a' w',FRN N w' S' ρ' (get (Fs l.length)) a'->a'.defers=a.defers->HRF w' S' ρ' (get (Hs l.length))->ExtH w S ρ h w' S' ρ' (get (Hs l.length))->Q .normal a' w') →
   Region.ready .any ops listed=[]->Q .normal a w:=by
  intro listed a w S ρ f h hls inv hF hH hQ hre
  have hall:=allrun listed hls hre
  have lt:∀ k y,L[k]?=some y->k<l.length:=fun k y hy=>by rw [← hr.len]; exact (List.getElem?_eq_some_iff.1 hy).1
  have ef:f=get (Fs l.length):=funext fun t=>inv.slot t l.length (Nat.le_refl _) fun k y hy _=>⟨fun _=>lt k y hy,fun hk=>hall k hk⟩
  have eh:h=get (Hs l.length):=funext fun i=>inv.name i l.length (Nat.le_refl _) fun k y hy _=>⟨fun _=>lt k y hy,fun hk=>hall k hk⟩
  rw [ef] at hF
  rw [eh] at hH hQ
  exact hQ S ρ a w hF rfl hH (Ext.refl _ _ _ _ _ hH.hS)
 intro fuel
 induction fuel with
 | zero =>
  intro listed a w S ρ f h hls hlft inv hF hH hQ
  have hre:Region.ready .any ops listed=[]:=by
   cases hR:Region.ready .any ops listed with
   | nil=>rfl
   | cons j rest =>
    have hj:j∈Region.ready .any ops listed:=by rw [hR]; simp
    obtain ⟨hun,o,ho,_⟩:=mem_ready.1 hj
    have hjl:j<l.length:=by rw [← hsz]; exact (Array.getElem?_eq_some_iff.1 ho).1
    have:=left_set hjl hun
    omega
  exact ⟨hre,finish listed a w S ρ f h hls inv hF hH hQ hre⟩
 | succ fuel ih =>
  intro listed a w S ρ f h hls hlft inv hF hH hQ
  refine ⟨finish listed a w S ρ f h hls inv hF hH hQ,fun j hj=>?_⟩
  obtain ⟨hun,o,ho,hall⟩:=mem_ready.1 hj
  have hjl:j<l.length:=by rw [← hsz]; exact (Array.getElem?_eq_some_iff.1 ho).1
  obtain ⟨y,hy⟩:=hr.at_ hjl
  obtain ⟨o',g1,g2,g3,g4⟩:=hr.step j y hy
  have hoo:o'=o:=by have:=hget j o' g1; rw [ho] at this; injection this with this; exact this.symm
  subst hoo
  obtain ⟨_,_,_,hp,_⟩:=Q3 g2
  have hpre:∀ k,k∈y.1.pre->listed.getD k false=true:=fun k hk=>by
   rw [hp] at hk
   unfold preOf at hk
   obtain ⟨e,he,rfl⟩:=List.mem_map.1 hk
   obtain ⟨he1,he2⟩:=List.mem_filter.1 he
   exact hall e (by simpa using he1) he2
  have hnE:¬ listed.getD j false=true:=by rw [unlisted_false hun]; simp
  obtain ⟨r1,r2⟩:=inv.ready hok hy hjl hnE hpre
  unfold wpOpC
  rw [ho]
  refine step_conf g2 g3 hF hH (fun t ht=>(r1 t ht).symm) (fun i hi=>(r2 i hi).symm) hout fun S1 ρ1 a1 w1 hF1 hd1 hH1 hE1=>?_
  refine ih _ a1 w1 S1 ρ1 _ _ (by simp [hls]) ?_ (inv.step hr hok hy hjl hnE hpre fun k=>?_) hF1 hH1 fun S2 ρ2 a2 w2 hF2 hd2 hH2 hE2=>hQ S2 ρ2 a2 w2 hF2 (hd2.trans hd1) hH2 (ExtH.trans hE1 hE2 fun i hi=>?_)
  ·have:=left_set hjl hun; omega
  ·by_cases hk:j=k
   ·subst hk
    have:j<listed.size:=by omega
    simp [this]
   ·rw [getD_set_ne false hk]
    exact ⟨.inl,fun h=>h.resolve_right (Ne.symm hk)⟩
  ·by_cases hw:i∈y.2.2
   ·rw [if_pos hw] at hi
    have:=g3.on i hw; rw [hi] at this; cases this
   ·rwa [if_neg hw] at hi
end
end Go.Proofs.YthmbjgnjfjjibaaGreatDoor
namespace Go.Proofs.YthmbjgnjfjjibaaGreatDoor
open Go.RowKit
set_option maxRecDepth 100000
inductive MC where
 | skip
 | reg (ops:List MOper) (draw:Bool)
 | seq (a b:MC)
 | cond (x:Arg) (a b:MC)
 | block (id:Nat) (c:MC)
 | loop (c:MC)
 | exit (id:Nat)
 | ret
 | rfunc (g:Arg) (ps:List Nat) (a b:MC)
 | scope (c:MC)
 | lab
def compOpers (P:Program) (N:Nat) (ops:Array Oper):List Oper->Option (List MOper)
 | []=>some []
 | o::l=>match QN P N ops o,compOpers P N ops l with
  | some m,some ms=>some (m::ms)
  | _,_=>none
def Qq (P:Program) (N:Nat):Code->Option MC
 | .skip=>some .skip
 | .region _ ops draw=>match compOpers P N ops ops.toList with
  | some ms=>some (.reg ms draw)
  | none=>none
 | .seq a b=>match Qq P N a,Qq P N b with
  | some x,some y=>some (.seq x y)
  | _,_=>none
 | .cond c a b=>match Qu c,Qq P N a,Qq P N b with
  | some r,some x,some y=>some (.cond r x y)
  | _,_,_=>none
 | .block id c=>match Qq P N c with
  | some x=>some (.block id x)
  | none=>none
 | .loop c=>match Qq P N c with
  | some x=>some (.loop x)
  | none=>none
 | .exit id=>some (.exit id)
 | .ret=>some .ret
 | .scope c=>match Qq P N c with
  | some x=>some (.scope x)
  | none=>none
 | .label _=>some .lab
 | .rangeFunc g ps a b=>match Qu g,Qq P N a,Qq P N b with
  | some r,some x,some y=>if ps.toList.all (fun p=>decide (p<N))=true then some (.rfunc r ps.toList x y) else none
  | _,_,_=>none
 | _=>none
structure ExtZ (Z:List Nat) (w:World) (S:Nat->Prop) (ρ:Rho) (h:Nat->Option Ob) (w':World) (S':Nat->Prop) (ρ':Rho) (h':Nat->Option Ob):Prop where
 keep:Keep w w' (LiveF ρ h All)
 sub:∀ b,S b->S' b
 fresh:∀ b,S' b->S b\/LiveF ρ h All b\/w.heap.size<=b
 own:∀ b,LiveF ρ' h' All b->LiveF ρ h All b\/w.heap.size<=b
 rho:∀ i,i∈Z->ρ' i=ρ i
theorem ExtZ.refl (Z:List Nat) (w:World) (S:Nat->Prop) (ρ:Rho) (h:Nat->Option Ob):ExtZ Z w S ρ h w S ρ h:=⟨Keep.refl _ _,fun _ h=>h,fun _ h=>.inl h,fun _ h=>.inl h,fun _ _=>rfl⟩
variable {Z:List Nat} {h:Nat->Option Ob} {S S1:Nat->Prop} {ρ ρ1:Rho} {w w1:World}
theorem ExtZ.trans {w2:World} {S2:Nat->Prop} {ρ2:Rho} {h1 h2:Nat->Option Ob} (e1:ExtZ Z w S ρ h w1 S1 ρ1 h1) (e2:ExtZ Z w1 S1 ρ1 h1 w2 S2 ρ2 h2):ExtZ Z w S ρ h w2 S2 ρ2 h2 :=
 ⟨e1.keep.trans e2.keep e1.own,fun b hb=>e2.sub b (e1.sub b hb),
  fun b hb=>(e2.fresh b hb).elim (fun h=>e1.fresh b h) fun h=>h.elim (fun h=>.inr (e1.own b h)) fun h=>.inr (.inr (Nat.le_trans e1.keep.size h)),
  fun b hb=>(e2.own b hb).elim (fun h=>e1.own b h) fun h=>.inr (Nat.le_trans e1.keep.size h),fun i hi=>(e2.rho i hi).trans (e1.rho i hi)⟩
def Zok (Z:List Nat) (H:List (Nat×Ob)):Prop:=∀ i,i∈Z->get H i≠none
variable {w':World}
theorem ExtH.z {S':Nat->Prop} {ρ':Rho} {h':Nat->Option Ob} (e:ExtH w S ρ h w' S' ρ' h') (hz:∀ i,i∈Z->h i≠none):ExtZ Z w S ρ h w' S' ρ' h' :=
 ⟨e.keep,e.sub,e.fresh,e.own,fun i hi=>e.rho i (hz i hi)⟩
abbrev Fr:=List (Nat×AV)
abbrev Hp:=List (Nat×Ob)
abbrev Post:=Exit->Fr->Hp->Prop
def JG:List Deferred->List Nat
 | []=>[]
 | d::l=>match d.target with
  | .collected D=>D::JG l
  | _=>JG l
theorem colD_map:∀ (Ds:List Nat) (ds:List Deferred),JG (Ds.map (fun D=>({ target:=.collected D,args := #[] }:Deferred))++ds)=Ds++JG ds
 | [],ds=>rfl
 | D::Ds,ds=>by simp only [List.map_cons,List.cons_append,JG,colD_map Ds ds]
def Marks (ds:List Deferred) (w:World) (live:Nat->Prop):Prop :=
 (JG ds).Nodup/\∀ D∈JG ds,w.heap[D]?=some (.deferred (some []))/\¬ live D
theorem Marks.nil (w:World) (live:Nat->Prop):Marks [] w live:=⟨List.nodup_nil,fun D h=>by cases h⟩
variable {ds:List Deferred}
theorem Marks.keep {live live':Nat->Prop} (h:Marks ds w live) (hk:Keep w w' live) (ho:∀ b,live' b->live b\/w.heap.size<=b):Marks ds w' live':=by
 obtain ⟨h2,h3⟩:=h
 refine ⟨h2,fun D hD=>?_⟩
 obtain ⟨q1,q2⟩:=h3 D hD
 have hlt:=(Array.getElem?_eq_some_iff.1 q1).1
 exact ⟨(hk.block D hlt q2).trans q1,fun hl=>(ho D hl).elim q2 (by omega)⟩
structure Conf (N:Nat) (Z:List Nat) (F:Fr) (H:Hp) (S:Nat->Prop) (ρ:Rho) (a:Act) (w:World):Prop where
 fr:FRN N w S ρ (get F) a
 defers:Marks a.defers w (LiveF ρ (get H) All)
 hp:HRF w S ρ (get H)
 z:Zok Z H
def FreshD (ds:List Deferred) (w:World) (ds':List Deferred):Prop:=∃ Ds:List Nat,ds'=Ds.map (fun D=>({ target:=.collected D,args := #[] }:Deferred))++ds/\∀ D∈Ds,w.heap.size<=D
theorem FreshD.refl (ds:List Deferred) (w:World):FreshD ds w ds:=⟨[],rfl,fun D h=>by cases h⟩
variable {ds1:List Deferred}
theorem FreshD.trans {ds2:List Deferred} (h:FreshD ds w ds1) (h1:FreshD ds1 w1 ds2) (hw:w.heap.size<=w1.heap.size):FreshD ds w ds2:=by
 obtain ⟨A,rfl,a2⟩:=h
 obtain ⟨B,rfl,b2⟩:=h1
 refine ⟨B++A,by simp,fun D hD=>?_⟩
 rcases List.mem_append.1 hD with hD | hD
 ·exact Nat.le_trans hw (b2 D hD)
 ·exact a2 D hD
def Reach (N:Nat) (Z:List Nat) (Q:Post) (S:Nat->Prop) (ρ:Rho) (H:Hp) (w:World) (ds:List Deferred) (e:Exit) (a':Act) (w':World):Prop :=
 (e ≠ .outgrown/\FreshD ds w a'.defers)/\∃ F' H' S' ρ',Q e F' H'/\Conf N Z F' H' S' ρ' a' w'/\ExtZ Z w S ρ (get H) w' S' ρ' (get H')
def AW (P:Program) (N:Nat) (Z:List Nat) (rn:Option Nat) (c:MC) (Q:Post) (F:Fr) (H:Hp):Prop :=
 ∀ code,Qq P N code=some c->∀ S ρ a w,Conf N Z F H S ρ a w->code.wpIn (Fc rn) 0 P (Reach N Z Q S ρ H w a.defers) a w
def Weak (N:Nat) (Z:List Nat) (F:Fr) (H:Hp) (F0:Fr) (H0:Hp):Prop :=
 ∀ S ρ a w,Conf N Z F H S ρ a w->∃ S' ρ',Conf N Z F0 H0 S' ρ' a w/\ExtZ Z w S ρ (get H) w S' ρ' (get H0)
theorem Weak.refl (N:Nat) (Z:List Nat) (F:Fr) (H:Hp):Weak N Z F H F H:=fun S ρ a w h=>⟨S,ρ,h,ExtZ.refl _ _ _ _ _⟩
variable {H1:Hp}
theorem Weak.trans {N:Nat} {F F1 F2:Fr} {H H2:Hp} (h1:Weak N Z F H F1 H1) (h2:Weak N Z F1 H1 F2 H2):Weak N Z F H F2 H2:=fun S ρ a w h=>by
 obtain ⟨S1,ρ1,c1,e1⟩:=h1 S ρ a w h
 obtain ⟨S2,ρ2,c2,e2⟩:=h2 S1 ρ1 a w c1
 exact ⟨S2,ρ2,c2,e1.trans e2⟩
theorem least_of {p:Nat->Prop} (h:∃ n,p n):∃ n,p n/\∀ m,p m->n<=m:=by
 obtain ⟨n,hn⟩:=h
 induction n using Nat.strongRecOn with
 | _ n ih =>
  by_cases hx:∃ m,m<n/\p m
  ·obtain ⟨m,hm,hp⟩:=hx
   exact ih m hm hp
  ·exact ⟨n,hn,fun m hm=>Nat.le_of_not_lt fun hlt=>hx ⟨m,hlt,hm⟩⟩
variable {ms:List MOper}
variable {K:List Fp->Fr->Hp->Prop}
variable {id:Nat}
section rules
variable {P:Program} {N:Nat} {Z:List Nat} {rn:Option Nat} {Q:Post} {F:Fr} {H:Hp}
theorem Reach.noOut:¬ LetsOut (Reach N Z Q S ρ H w ds):=fun ⟨_,_,h,_⟩=>h.1 rfl
theorem Reach.of {e:Exit} {a':Act} (hf:FreshD ds w ds1) (he:ExtZ Z w S ρ (get H) w1 S1 ρ1 (get H1)) (h:Reach N Z Q S1 ρ1 H1 w1 ds1 e a' w'):Reach N Z Q S ρ H w ds e a' w':=by
 obtain ⟨ho,F',H',S',ρ',q,c,e⟩:=h
 exact ⟨⟨ho.1,hf.trans ho.2 he.keep.size⟩,F',H',S',ρ',q,c,he.trans e⟩
theorem XG {c:MC} {Q':Post} (h:AW P N Z rn c Q F H) (hq:∀ e F' H',Q e F' H'->Q' e F' H'):AW P N Z rn c Q' F H:=fun code hc S ρ a w hcf =>
 wpIn_mono (h code hc S ρ a w hcf) fun e a' w' ⟨ho,F',H',S',ρ',q,r⟩=>⟨ho,F',H',S',ρ',hq _ _ _ q,r⟩
theorem QC {c:MC} {F0:Fr} {H0:Hp} (hw:Weak N Z F H F0 H0) (h:AW P N Z rn c Q F0 H0):AW P N Z rn c Q F H:=fun code hc S ρ a w hcf=>by
 obtain ⟨S1,ρ1,c1,e1⟩:=hw S ρ a w hcf
 exact wpIn_mono (h code hc S1 ρ1 a w c1) fun e a' w' hr=>hr.of (FreshD.refl _ _) e1
theorem aw_skip (h:Q .normal F H):AW P N Z rn .skip Q F H:=fun code hc S ρ a w hcf=>by
 cases code <;> simp [Qq] at hc
 ·exact wpIn_skip ⟨⟨(fun e=>by cases e),FreshD.refl _ _⟩,F,H,S,ρ,h,hcf,ExtZ.refl _ _ _ _ _⟩
 all_goals (repeat' split at hc) <;> cases hc
theorem aw_exit (h:Q (.exit id) F H):AW P N Z rn (.exit id) Q F H:=fun code hc S ρ a w hcf=>by
 cases code <;> simp [Qq] at hc
 case exit i=>subst hc; exact wpIn_exit ⟨⟨(fun e=>by cases e),FreshD.refl _ _⟩,F,H,S,ρ,h,hcf,ExtZ.refl _ _ _ _ _⟩
 all_goals (repeat' split at hc) <;> cases hc
theorem aw_ret (h:Q .ret F H):AW P N Z rn .ret Q F H:=fun code hc S ρ a w hcf=>by
 cases code <;> simp [Qq] at hc
 case ret=>exact wpIn_ret ⟨⟨(fun e=>by cases e),FreshD.refl _ _⟩,F,H,S,ρ,h,hcf,ExtZ.refl _ _ _ _ _⟩
 all_goals (repeat' split at hc) <;> cases hc
theorem aw_lab (h:Q .normal F H):AW P N Z rn .lab Q F H:=fun code hc S ρ a w hcf=>by
 cases code <;> simp [Qq] at hc
 case label l=>exact wpIn_label ⟨⟨(fun e=>by cases e),FreshD.refl _ _⟩,F,H,S,ρ,h,hcf,ExtZ.refl _ _ _ _ _⟩
 all_goals (repeat' split at hc) <;> cases hc
theorem aw_scope {x:MC} (h:AW P N Z none x (fun e F' H'=>(∀ l,e ≠ .goto l)/\Q e F' H') F H):AW P N Z none (.scope x) Q F H:=fun code hc S ρ a w hcf=>by
 cases code <;> simp [Qq] at hc
 case scope cx =>
  split at hc
  ·rename_i x' hx
   simp at hc
   subst hc
   refine wpIn_wide.2 (wp_scope_straight (wpIn_wide.1 (wpIn_mono (h cx hx S ρ a w hcf) fun e a' w' ⟨ho,F',H',S',ρ',q,cf,ex⟩=>?_)))
   have r:Reach N Z Q S ρ H w a.defers e a' w':=⟨ho,F',H',S',ρ',q.2,cf,ex⟩
   cases e with
   | goto l=>exact absurd rfl (q.1 l)
   | _=>exact r
  ·cases hc
 all_goals (repeat' split at hc) <;> cases hc
def Then (next:Fr->Hp->Prop) (Q:Post):Post
 | .normal,F,H=>next F H
 | e,F,H=>Q e F H
def InBlock (id:Nat) (Q:Post):Post
 | .exit i,F,H=>if i=id then Q .normal F H else Q (.exit i) F H
 | e,F,H=>Q e F H
theorem aw_seq {x y:MC} (h:AW P N Z rn x (Then (AW P N Z rn y Q) Q) F H):AW P N Z rn (.seq x y) Q F H:=fun code hc S ρ a w hcf=>by
 cases code <;> simp [Qq] at hc
 case seq cx cy =>
  split at hc
  ·rename_i x' y' hx hy
   simp at hc
   obtain ⟨rfl,rfl⟩:=hc
   refine wpIn_seq (wpIn_mono (h cx hx S ρ a w hcf) fun e a' w' ⟨ho,F',H',S',ρ',q,cf,ex⟩=>?_)
   cases e <;> first | exact wpIn_mono (q cy hy S' ρ' a' w' cf) (fun _ _ _ hr=>hr.of ho.2 ex) | exact ⟨ho,F',H',S',ρ',q,cf,ex⟩
  ·cases hc
 all_goals (repeat' split at hc) <;> cases hc
theorem aw_cond {x:Arg} {y z:MC} {t:Bool} (ht:Qe F x=some (.bool t)) (h1:t=true->AW P N Z rn y Q F H) (h2:t=false->AW P N Z rn z Q F H):AW P N Z rn (.cond x y z) Q F H:=fun code hc S ρ a w hcf=>by
 cases code <;> simp [Qq] at hc
 case cond cx cy cz =>
  split at hc
  ·rename_i x' y' z' hx hy hz
   simp at hc
   obtain ⟨rfl,rfl,rfl⟩:=hc
   have e:=(Qd hx (ts:=x'.slots) (fun t _ v hv=>hcf.fr.at_ t v hv) (fun _ h=>h) ht).bool_inv
   exact wpIn_cond_split e (fun e1=>h1 e1 cy hy S ρ a w hcf) fun e1=>h2 e1 cz hz S ρ a w hcf
  ·cases hc
 all_goals (repeat' split at hc) <;> cases hc
theorem aw_block {x:MC} (h:AW P N Z rn x (InBlock id Q) F H):AW P N Z rn (.block id x) Q F H:=fun code hc S ρ a w hcf=>by
 cases code <;> simp [Qq] at hc
 case block i cx =>
  split at hc
  ·rename_i x' hx
   simp at hc
   obtain ⟨rfl,rfl⟩:=hc
   refine wpIn_block (wpIn_mono (h cx hx S ρ a w hcf) fun e a' w' ⟨ho,F',H',S',ρ',q,cf,ex⟩=>?_)
   cases e with
   | exit k =>
    simp only [Exit.inBlock]
    simp only [InBlock] at q
    split
    ·rename_i hk; rw [if_pos hk] at q; exact ⟨⟨(fun e=>by cases e),ho.2⟩,F',H',S',ρ',q,cf,ex⟩
    ·rename_i hk; rw [if_neg hk] at q; exact ⟨ho,F',H',S',ρ',q,cf,ex⟩
   | _=>exact ⟨ho,F',H',S',ρ',q,cf,ex⟩
  ·cases hc
 all_goals (repeat' split at hc) <;> cases hc
theorem aw_loop {x:MC} (I:Nat->Fr->Hp->Prop) (n:Nat) (h0:I n F H)
  (round:∀ n F H,I n F H->AW P N Z rn x (Then (fun F' H'=>∃ m F0 H0,m<n/\Weak N Z F' H' F0 H0/\I m F0 H0) Q) F H):AW P N Z rn (.loop x) Q F H:=fun code hc S ρ a w hcf=>by
 cases code <;> simp [Qq] at hc
 case loop cx =>
  split at hc
  ·rename_i x' hx
   simp at hc
   subst hc
   classical
   let J:Nat->Act->World->Prop:=fun m a' w'=>∃ F' H' S' ρ',I m F' H'/\Conf N Z F' H' S' ρ' a' w'/\ExtZ Z w S ρ (get H) w' S' ρ' (get H')/\FreshD a.defers w a'.defers
   let μ : Act->World->Nat:=fun a' w'=>if h:∃ m,J m a' w' then Classical.choose (least_of h) else 0
   refine wpIn_loop (fun a' w'=>∃ m,J m a' w') μ ⟨n,F,H,S,ρ,h0,hcf,ExtZ.refl _ _ _ _ _,FreshD.refl _ _⟩ fun a1 w1 hI=>?_
   have hμ : μ a1 w1=Classical.choose (least_of hI):=by simp only [μ]; rw [dif_pos hI]
   obtain ⟨F1,H1,S1,ρ1,i1,c1,e1,f1⟩:=(Classical.choose_spec (least_of hI)).1
   refine wpIn_mono (round (Classical.choose (least_of hI)) F1 H1 i1 cx hx S1 ρ1 a1 w1 c1) fun e a2 w2 ⟨ho,F2,H2,S2,ρ2,q,c2,e2⟩=>?_
   cases e with
   | normal =>
    obtain ⟨m,F3,H3,hm,hw,i3⟩:=q
    obtain ⟨S3,ρ3,c3,e3⟩:=hw S2 ρ2 a2 w2 c2
    have hj:J m a2 w2:=⟨F3,H3,S3,ρ3,i3,c3,e1.trans (e2.trans e3),f1.trans ho.2 e1.keep.size⟩
    refine ⟨⟨m,hj⟩,?_⟩
    have hle : μ a2 w2<=m:=by
     simp only [μ]
     rw [dif_pos ⟨m,hj⟩]
     exact (Classical.choose_spec (least_of ⟨m,hj⟩)).2 m hj
    rw [hμ]; omega
   | _=>exact ⟨⟨ho.1,f1.trans ho.2 e1.keep.size⟩,F2,H2,S2,ρ2,q,c2,e1.trans e2⟩
  ·cases hc
 all_goals (repeat' split at hc) <;> cases hc
def RS (P:Program) (N:Nat) (ml:List MOper) (F:Fr) (H:Hp) (K:List Fp->Fr->Hp->Prop):Prop :=
 ∀ ops l,compOpers P N ops l=some ml->∃ fps F' H',SeqM P N ops l ml F H fps F' H'/\K fps F' H'
theorem rs_nil (h:K [] F H):RS P N [] F H K:=fun ops l hl=>by
 cases l with
 | nil=>exact ⟨[],F,H,.nil F H,h⟩
 | cons o l=>simp only [compOpers] at hl; split at hl <;> cases hl
theorem rs_cons {mo:MOper} {ml:List MOper}
  (h:∀ ops o,QN P N ops o=some mo->∃ v rd wr H1,StepM P N ops o mo F H rd wr v H1/\RS P N ml (putF F mo.dst v) H1 (fun fps=>K ((rd,wr)::fps))):RS P N (mo::ml) F H K:=fun ops l hl=>by
 cases l with
 | nil=>simp [compOpers] at hl
 | cons o l =>
  simp only [compOpers] at hl
  split at hl
  ·rename_i m ms hm hms
   injection hl with hl
   injection hl with h1 h2
   subst h1 h2
   obtain ⟨v,rd,wr,H1,hs,hr⟩:=h ops o hm
   obtain ⟨fps,F',H',q1,q2⟩:=hr ops l hms
   exact ⟨_,F',H',.cons hm hs q1,q2⟩
  ·cases hl
theorem aw_reg (h:RS P N ms F H fun _ F' H'=>Zok Z H'->Q .normal F' H'):AW P N Z rn (.reg ms false) Q F H:=fun code hc S ρ a w hcf=>by
 cases code <;> simp [Qq] at hc
 case region id ops draw =>
  split at hc
  ·rename_i ms' hms
   simp at hc
   obtain ⟨rfl,rfl⟩:=hc
   obtain ⟨fps,F',H',hs,hk⟩:=h ops _ hms
   refine wpIn_region_list (seq_wpList hs Reach.noOut hcf.fr hcf.hp fun S' ρ' a' w' hF hd hH hE=>?_)
   have hz:Zok Z H':=fun i hi h0=>by
    have h1:ρ' i=none:=hH.dom i h0
    have h2:=hE.rho i (hcf.z i hi)
    cases hg:get H i with
    | none=>exact hcf.z i hi hg
    | some ob =>
     obtain ⟨bk,z,cap,q,_⟩:=hcf.hp.at_.ob i ob trivial hg
     rw [h1,q] at h2; cases h2
   exact ⟨⟨(fun e=>by cases e),by rw [hd]; exact FreshD.refl _ _⟩,F',H',S',ρ',hk hz,⟨hF,by rw [hd]; exact hcf.defers.keep hE.keep hE.own,hH,hz⟩,hE.z hcf.z⟩
  ·cases hc
 all_goals (repeat' split at hc) <;> cases hc
theorem Conf.drew {a:Act} (h:Conf N Z F H S ρ a w):Conf N Z F H S ρ a w.drew :=
 ⟨⟨h.fr.size,fun t v hv=>VR.mono (w:=w) (w':=w.drew) (S':=S) (ρ':=ρ) (fun _ h=>h) (fun _ _ _ h=>h) (fun _ _ h=>h) (h.fr.at_ t v hv)⟩,h.defers,
  ⟨h.hp.hS,h.hp.dom,⟨fun i ob hi hg=>by
   obtain ⟨bk,z,cap,q1,q2⟩:=h.hp.at_.ob i ob hi hg
   refine ⟨bk,z,cap,q1,OR.mono (w:=w) (w':=w.drew) (S':=S) (ρ':=ρ) (fun _ h=>h) (fun _ _ _ h=>h) (fun _ _ h=>h) (fun b hb hl=>⟨rfl,?_⟩) q2⟩
   subst hb
   exact (h.hp.cells_ne hg hl q1).1,h.hp.at_.dis⟩⟩,h.z⟩
theorem aw_draw (hm:P.follows .mixedOrders=true) (h:RS P N ms F H fun fps F' H'=>JB (ms.zip fps)=true/\(Zok Z H'->Q .normal F' H')):AW P N Z rn (.reg ms true) Q F H:=fun code hc S ρ a w hcf=>by
 cases code <;> simp [Qq] at hc
 case region id ops draw =>
  split at hc
  ·rename_i ms' hms
   simp at hc
   obtain ⟨rfl,rfl⟩:=hc
   obtain ⟨fps,F',H',hs,hok,hk⟩:=h ops _ hms
   obtain ⟨e1,e2,Fs,Hs,vs,f0,h0,fn,hn,hr⟩:=hs.data
   have hcd:=hcf.drew
   refine wpIn_region_any hm ?_
   have hsz:ops.size=ops.toList.length:=by simp
   rw [hsz]
   refine draw_sound hr hok rfl Reach.noOut ops.toList.length _ a w.drew S ρ (get F) (get H) (by simp) ?_ ⟨fun j y _ h=>?_,fun t m _ hw=>?_,fun i m _ hw=>?_⟩ hcd.fr hcd.hp fun S' ρ' a' w' hF hd hH hE=>?_
   ·unfold left; exact Nat.le_trans (List.length_filter_le _ _) (by simp)
   ·have h':(Array.replicate ops.toList.length false).getD j false=true:=by simpa using h
    rw [Jd] at h'; cases h'
   ·have:get (Fs m) t=get (Fs 0) t:=by
     have:=hr.slot_same (t:=t) (a:=0) m (by simpa using ‹m<=_›) fun k y _ h2 hy hd=>by
      have h':=(hw k y hy hd).2 (by omega)
      rw [Jd] at h'; cases h'
     simpa using this
    rw [this,f0]
   ·have:get (Hs m) i=get (Hs 0) i:=by
     have:=hr.name_same (i:=i) (a:=0) m (by simpa using ‹m<=_›) fun k y _ h2 hy hd=>by
      have h':=(hw k y hy hd).2 (by omega)
      rw [Jd] at h'; cases h'
     simpa using this
    rw [this,h0]
   ·rw [fn] at hF
    rw [hn] at hH hE
    have hz:Zok Z H':=fun i hi h0=>by
     have h1:ρ' i=none:=hH.dom i h0
     have h2:=hE.rho i (hcf.z i hi)
     cases hg:get H i with
     | none=>exact hcf.z i hi hg
     | some ob =>
      obtain ⟨bk,z,cap,q,_⟩:=hcf.hp.at_.ob i ob trivial hg
      rw [h1,q] at h2; cases h2
    have hE':ExtZ Z w S ρ (get H) w' S' ρ' (get H'):=by
     have e:=hE.z hcf.z
     exact ⟨⟨e.keep.os,e.keep.tape,e.keep.output,e.keep.size,e.keep.block⟩,e.sub,e.fresh,e.own,e.rho⟩
    exact ⟨⟨(fun e=>by cases e),by rw [hd]; exact FreshD.refl _ _⟩,F',H',S',ρ',hk hz,⟨hF,by rw [hd]; exact hcf.defers.keep hE'.keep hE'.own,hH,hz⟩,hE'⟩
  ·cases hc
 all_goals (repeat' split at hc) <;> cases hc
end rules
end Go.Proofs.YthmbjgnjfjjibaaGreatDoor
namespace Go.Proofs.YthmbjgnjfjjibaaGreatDoor
open Go.RowKit
set_option maxRecDepth 100000
variable {sem:Array Value->World->(Ending->World->Prop)->Prop} {Hs:Hp} {vs':List AV} {rd:List Nat}
variable {r:AV} {al:Bool} {H':Hp}
variable {name:String}
variable {as:List Arg}
variable {S:Nat->Prop} {ρ ρ':Rho} {w:World}
mutual
def Qr (D:List Nat):AV->Bool
 | .ptr i _ _=>D.contains i
 | .sl i _ _=>D.contains i
 | .sa i _ _ _=>D.contains i
 | .mp i=>D.contains i
 | .yl i=>D.contains i
 | .bnd _ v=>Qr D v
 | .fn _ caps=>Qy D caps
 | .agg cs=>Qy D cs
 | .tup cs=>Qy D cs
 | _=>true
def Qy (D:List Nat):List AV->Bool
 | []=>true
 | v::l=>Qr D v&&Qy D l
end
theorem Xf {D:List Nat}:∀ {l:List AV} {v:AV},Qy D l=true->v∈l->Qr D v=true
 | u::l,v,h,hv=>by
  simp only [Qy,Bool.and_eq_true] at h
  rcases List.mem_cons.1 hv with rfl | hv
  ·exact h.1
  ·exact Xf h.2 hv
theorem VR.scope {v:AV} {c:Value} (h:VR w S ρ v c) {D:List Nat} (hs:Qr D v=true) (hρ:∀ i,i∈D->ρ' i=ρ i):VR w S ρ' v c:=by
 induction h with
 | cl h=>exact .cl h
 | ptr i j o b z cap h=>exact .ptr i j o b z cap ((hρ i (by simpa [Qr] using hs)).trans h)
 | sl i j n b z cap cap' h hc hn=>exact .sl i j n b z cap cap' ((hρ i (by simpa [Qr] using hs)).trans h) hc hn
 | sl0 i z h=>exact .sl0 i z ((hρ i (by simpa [Qr] using hs)).trans h)
 | sa i j o n b z cap cap' h hn=>exact .sa i j o n b z cap cap' ((hρ i (by simpa [Qr] using hs)).trans h) hn
 | fn f caps C hn _ ih =>
  simp only [Qr] at hs
  exact .fn f caps C hn fun j v hj=>ih j v hj (Xf hs (List.mem_of_getElem? hj))
 | agg cs C hn h1 _ ih =>
  simp only [Qr] at hs
  exact .agg cs C hn h1 fun j v hj=>ih j v hj (Xf hs (List.mem_of_getElem? hj))
 | tup cs C hn _ ih =>
  simp only [Qr] at hs
  exact .tup cs C hn fun j v hj=>ih j v hj (Xf hs (List.mem_of_getElem? hj))
 | mp i b z cap h=>exact .mp i b z cap ((hρ i (by simpa [Qr] using hs)).trans h)
 | yl i b z cap h=>exact .yl i b z cap ((hρ i (by simpa [Qr] using hs)).trans h)
 | bnd f v c _ ih =>
  simp only [Qr] at hs
  exact .bnd f v c (ih hs)
def scopedE (D:List Nat):List (List AV)->Bool
 | []=>true
 | e::r=>Qy D e&&scopedE D r
theorem scopedE_mem {D:List Nat}:∀ {els:List (List AV)} {el:List AV},scopedE D els=true->el∈els->Qy D el=true
 | e::r,el,h,he=>by
  simp only [scopedE,Bool.and_eq_true] at h
  rcases List.mem_cons.1 he with rfl | he
  ·exact h.1
  ·exact scopedE_mem h.2 he
def Q4 (D:List Nat):Ob->Bool
 | .dead=>true
 | .glob _ _=>true
 | .mset _=>true
 | .fm _=>false
 | .lp _ Fl=>Qy D (Fl.map (·.2))
 | .cells _ _ _ true=>true
 | .cells _ _ els false=>scopedE D els
theorem OR.scope {ob:Ob} {bk:Option Nat} {z cap:Nat} (h:OR w S ρ ob bk z cap) {D:List Nat} (hs:Q4 D ob=true) (hρ:∀ i,i∈D->ρ' i=ρ i):OR w S ρ' ob bk z cap:=by
 cases ob with
 | dead=>trivial
 | glob g cs=>exact h
 | mset ks=>exact h
 | fm kvs=>cases hs
 | lp r Fl =>
  obtain ⟨b,h1,h2,h3,h4⟩:=h
  exact ⟨b,h1,h2,h3,fun t v hv=>(h4 t v hv).scope (Xf hs (List.mem_map_of_mem (f:=(·.2)) hv)) hρ⟩
 | cells e z' els fl =>
  obtain ⟨hz,h⟩:=h
  refine ⟨hz,?_⟩
  cases bk with
  | none=>exact h
  | some b =>
   obtain ⟨h0,hm,C,hC,h1,h2,h3,h4⟩:=h
   refine ⟨h0,hm,C,hC,h1,h2,h3,fun j el o v he hv=>?_⟩
   obtain ⟨q1,q2⟩:=h4 j el o v he hv
   refine ⟨q1,?_⟩
   cases fl with
   | true=>exact q2
   | false =>
    rw [if_neg (by simp)] at q2 ⊢
    exact q2.scope (Xf (scopedE_mem hs (List.mem_of_getElem? he)) (List.mem_of_getElem? hv)) hρ
def VRs (w:World) (S:Nat->Prop) (ρ:Rho) (vs:List AV) (C:Array Value):Prop:=C.size=vs.length/\∀ (j:Nat) (v:AV),vs[j]?=some v->VR w S ρ v (C.getD j undef)
def FC (P:Program) (f:FuncId) (args:List AV) (H:Hp) (r:AV) (H':Hp) (al:Bool):Prop :=
 ∀ (w:World) (S:Nat->Prop) (ρ:Rho) (cargs:Array Value),HRF w S ρ (get H)->VRs w S ρ args cargs->Calls P f cargs w fun e w'=>∃ cv S' ρ',e = .returned cv/\VR w' S' ρ' r cv/\HRF w' S' ρ' (get H') ∧
  Keep w w' (LiveF ρ (get H) All)/\(∀ b,S' b->(al=true/\S b)\/LiveF ρ (get H) All b\/w.heap.size<=b)/\(∀ b,LiveF ρ' (get H') All b->LiveF ρ (get H) All b\/w.heap.size<=b) ∧
  (∀ i,get H i≠none->ρ' i=ρ i)/\(∀ i,get H i≠none->get H' i≠none)
theorem QU {α:Type}:∀ (A B:List (Nat×α)) (i:Nat),get (A++B) i=(get A i).or (get B i)
 | [],B,i=>by simp [get]
 | (k,v)::A,B,i=>by
  simp only [List.cons_append,get]
  split
  ·simp
  ·exact QU A B i
section
variable {P:Program} {N:Nat} {ops:Array Oper} {o:Oper} {mo:MOper} {F:Fr} {H:Hp}
def Qa {α:Type} (H:List (Nat×α)):List Nat:=H.map (·.1)
theorem Qp {α:Type}:∀ {H:List (Nat×α)} {i:Nat},i∈Qa H ↔ get H i≠none
 | [],i=>by simp [Qa,get]
 | (k,v)::H,i=>by
  have ih := @Qp α H i
  simp only [Qa,List.map_cons,List.mem_cons,get] at ih ⊢
  by_cases h:k=i
  ·simp [h]
  ·rw [if_neg h,← ih]
   exact ⟨fun h'=>h'.resolve_left (Ne.symm h),.inr⟩
theorem guard_wanted {mo:MOper} (hc:QN P N ops o=some mo) {F:Fr} {a:Act} (hF:FRs mo.slots F a w S ρ)
  (hg:mo.guard=none\/∃ g want,mo.guard=some (g,want)/\get F g=some (.bool want)):Region.wanted o (yielded ops a.tmps)=true:=by
 obtain ⟨_,_,_,_,e5⟩:=Q3 hc
 rcases e5 with ⟨g1,_⟩ | ⟨j,g,want,g1,g2,g3⟩
 ·simp [Region.wanted,g1]
 ·rcases hg with hg | ⟨g',want',hg,hgv⟩
  ·rw [g3] at hg; cases hg
  ·rw [g3] at hg
   simp only [Option.some.injEq,Prod.mk.injEq] at hg
   obtain ⟨rfl,rfl⟩:=hg
   have hv:=(hF g (by simp [MOper.slots,g3]) _ hgv).bool_inv
   simp [Region.wanted,g1,yielded_bool g2 hv]
theorem XU {f:FuncId} (hf:Xj P f=true) (args:Array Value) (w:World):(callFunc f args).run P w = .ok (.enter f args) w:=by
 unfold Xj at hf
 split at hf
 ·rename_i fn hfn
  simp only [Bool.and_eq_true,Bool.not_eq_true',beq_eq_false_iff_ne] at hf
  obtain ⟨h1,h2⟩:=hf
  cases hb:fn.body with
  | none=>rw [hb] at h1; cases h1
  | some c=>simp [callFunc,hfn,h2,hb]
 ·cases hf
def Enters (P:Program) (o:Oper) (mo:MOper) (F:Fr) (f:FuncId) (vs:List AV):Prop :=
 ∀ (S:Nat->Prop) (ρ:Rho) (a:Act) (w:World),FRs mo.slots F a w S ρ->∃ cargs:Array Value,(execOp a.eval o).run P w = .ok (.enter f cargs) w/\VRs w S ρ vs cargs
theorem enters_call (hc:QN P N ops o=some mo) {f:FuncId} (hop:mo.op = .call f as) {vs:List AV} (hv:XT F as=some vs):Enters P o mo F f vs:=by
 obtain ⟨e1,_⟩:=Q3 hc
 rw [hop] at e1
 intro S ρ a w hF
 cases ho:o.op with
 | call c =>
  rw [ho] at e1
  simp only [Q7,J0] at e1
  split at e1
  ·rename_i g hcal
   split at e1
   ·rename_i hent
    split at e1
    ·rename_i as' has
     injection e1 with e1
     injection e1 with e2 e3
     subst e2 e3
     obtain ⟨q1,q2⟩:=cargs_ok hF _ _ _ has (fun t ht=>by simp [MOper.slots,hop,MOp.slots,ht]) hv
     have earr:c.args.map a.eval=(c.args.toList.map a.eval).toArray:=by rw [← Array.toList_map,Array.toArray_toList]
     refine ⟨c.args.map a.eval,?_,by rw [earr]; exact ⟨by simpa using q1,q2⟩⟩
     simp [execOp,ho,resolve,hcal,Act.eval,Deferred.ofValue,invoke,XU hent]
    ·cases e1
   ·cases e1
  ·split at e1 <;> simp at e1
  all_goals (repeat' split at e1) <;> simp at e1
 | _=>rw [ho] at e1; simp only [Q7,J2] at e1; (repeat' split at e1) <;> first | contradiction | (unfold JW at e1; (repeat' split at e1) <;> (cases e1; done)) | (cases e1; done) | (obtain ⟨r,_,e2⟩:=map_some e1; cases e2)
theorem enters_callv (hc:QN P N ops o=some mo) {g:Arg} (hop:mo.op = .callv g as) {vs cs:List AV} {f:FuncId} (hg:Qe F g=some (.fn (.func f) cs)) (hent:Xj P f=true) (hv:XT F as=some vs) :
  Enters P o mo F f (vs++cs):=by
 obtain ⟨e1,_⟩:=Q3 hc
 rw [hop] at e1
 intro S ρ a w hF
 cases ho:o.op with
 | call c =>
  rw [ho] at e1
  simp only [Q7,J0] at e1
  split at e1
  ·split at e1
   ·split at e1 <;> simp at e1
   ·cases e1
  ·rename_i t hcal
   split at e1
   ·rename_i as' has
    injection e1 with e1
    injection e1 with e2 e3
    subst e2 e3
    obtain ⟨q1,q2⟩:=cargs_ok hF _ _ _ has (fun t ht=>by simp [MOper.slots,hop,MOp.slots,ht]) hv
    have hfv:=Qd (x:=.tmp t) (r:=.t t) rfl hF (fun k hk=>List.mem_append_left _ (by rw [hop]; exact List.mem_append_left _ hk)) hg
    obtain ⟨C,e4,e5,e6⟩:=hfv.fn_inv
    have earr:c.args.map a.eval=(c.args.toList.map a.eval).toArray:=by rw [← Array.toList_map,Array.toArray_toList]
    refine ⟨c.args.map a.eval++C,?_,by rw [earr]; simp at q1; simp [q1,e5],fun j v hj=>?_⟩
    ·simp [execOp,ho,resolve,hcal,e4,Deferred.ofValue,invoke,XU hent]
    ·rw [earr]
     by_cases hjl:j<vs.length
     ·rw [List.getElem?_append_left hjl] at hj
      have:=q2 j v hj
      have hs:j<(c.args.toList.map a.eval).toArray.size:=by simp at q1 ⊢; omega
      rw [Array.getD_eq_getD_getElem?,Array.getElem?_append_left hs,← Array.getD_eq_getD_getElem?]
      exact this
     ·rw [List.getElem?_append_right (by omega)] at hj
      have hs:(c.args.toList.map a.eval).toArray.size<=j:=by simp at q1 ⊢; omega
      rw [Array.getD_eq_getD_getElem?,Array.getElem?_append_right hs,← Array.getD_eq_getD_getElem?]
      have hsz:(c.args.toList.map a.eval).toArray.size=vs.length:=by simpa using q1
      rw [hsz]
      exact e6 _ v hj
   ·cases e1
  all_goals (repeat' split at e1) <;> simp at e1
 | _=>rw [ho] at e1; simp only [Q7,J2] at e1; (repeat' split at e1) <;> first | contradiction | (unfold JW at e1; (repeat' split at e1) <;> (cases e1; done)) | (cases e1; done) | (obtain ⟨r,_,e2⟩:=map_some e1; cases e2)
theorem VR.bnd_inv {f:Fn} {v:AV} {c:Value} (h:VR w S ρ (.bnd f v) c):∃ cv,c = .func f #[cv] #[]/\VR w S ρ v cv:=by
 cases h with
 | cl h=>cases h
 | bnd _ _ cv h=>exact ⟨cv,rfl,h⟩
theorem enters_callb (hc:QN P N ops o=some mo) {g:Arg} (hop:mo.op = .callv g as) {vs:List AV} {v:AV} {f:FuncId} (hg:Qe F g=some (.bnd (.func f) v)) (hent:Xj P f=true) (hv:XT F as=some vs) :
  Enters P o mo F f (v::vs):=by
 obtain ⟨e1,_⟩:=Q3 hc
 rw [hop] at e1
 intro S ρ a w hF
 cases ho:o.op with
 | call c =>
  rw [ho] at e1
  simp only [Q7,J0] at e1
  split at e1
  ·split at e1
   ·split at e1 <;> simp at e1
   ·cases e1
  ·rename_i t hcal
   split at e1
   ·rename_i as' has
    injection e1 with e1
    injection e1 with e2 e3
    subst e2 e3
    obtain ⟨q1,q2⟩:=cargs_ok hF _ _ _ has (fun t ht=>by simp [MOper.slots,hop,MOp.slots,ht]) hv
    have hfv:=Qd (x:=.tmp t) (r:=.t t) rfl hF (fun k hk=>List.mem_append_left _ (by rw [hop]; exact List.mem_append_left _ hk)) hg
    obtain ⟨cv,e4,e5⟩:=hfv.bnd_inv
    have earr:c.args.map a.eval=(c.args.toList.map a.eval).toArray:=by rw [← Array.toList_map,Array.toArray_toList]
    refine ⟨#[cv]++c.args.map a.eval,?_,by rw [earr]; simp at q1; simp [q1],fun j u hj=>?_⟩
    ·simp [execOp,ho,resolve,hcal,e4,Deferred.ofValue,invoke,XU hent]
    ·cases j with
     | zero =>
      simp at hj; subst hj
      rw [Array.getD_eq_getD_getElem?,Array.getElem?_append_left (by simp)]
      simpa using e5
     | succ j =>
      have:=q2 j u (by simpa using hj)
      rw [earr]
      rw [Array.getD_eq_getD_getElem?] at this ⊢
      rw [Array.getElem?_append_right (by simp)]
      simpa using this
   ·cases e1
  all_goals (repeat' split at e1) <;> simp at e1
 | _=>rw [ho] at e1; simp only [Q7,J2] at e1; (repeat' split at e1) <;> first | contradiction | (unfold JW at e1; (repeat' split at e1) <;> (cases e1; done)) | (cases e1; done) | (obtain ⟨r,_,e2⟩:=map_some e1; cases e2)
def methF (P:Program) (t:TypeId) (name:String):Option FuncId:=match P.info? t with
 | some i=>match i.methods.find? (·.name == name) with
  | some m=>if m.path.toList=[] then match m.func with
    | some (f,false)=>match P.underlying t with
     | some (.pointer _)=>none
     | some _=>some f
     | none=>none
    | _=>none
   else none
  | none=>none
 | none=>none
theorem methF_parts {t:TypeId} {f:FuncId} (h:methF P t name=some f):∃ i m d,P.info? t=some i/\i.methods.find? (·.name == name)=some m/\m.path.toList=[]/\m.func=some (f,false)/\P.underlying t=some d/\∀ e,d ≠ .pointer e:=by
 unfold methF at h
 split at h
 ·rename_i i hi
  split at h
  ·rename_i m hm
   split at h
   ·rename_i hp
    split at h
    ·rename_i g hg
     split at h
     ·cases h
     ·rename_i d hd hu
      injection h with h; subst h
      exact ⟨i,m,d,hi,hm,hp,hg,hu,fun e he=>hd e he⟩
     ·cases h
    ·cases h
   ·cases h
  ·cases h
 ·cases h
theorem run_tinfo {t:TypeId} {i:TypeInfo} (h:P.info? t=some i) (w:World):(typeInfo t).run P w = .ok i w:=by
 simp [typeInfo,Sem.run_bind,run_program,h]
theorem run_method {t:TypeId} {f:FuncId} (h:methF P t name=some f) (k:Nat) (v:Value) (w:World):(method (k+1) t v name).run P w = .ok (f,v) w:=by
 obtain ⟨i,m,d,hi,hm,hp,hf,hu,hd⟩:=methF_parts h
 unfold method
 simp only [Sem.run_bind,run_tinfo hi,Result.andThen_ok,hm,hp,follow,Sem.run_pure,hf]
 have : (receiverAt t (.val v) false (if m.path.isEmpty = true then some ((name.splitOn ".").getLastD name) else none)).run P w = .ok v w := by
  unfold receiverAt
  simp only [Sem.run_bind,run_underlying hu,Result.andThen_ok]
  cases d <;> first | rfl | (exact absurd rfl (hd _))
 simp only [this,Result.andThen_ok]
theorem enters_inv (hc:QN P N ops o=some mo) {x:Arg} (hop:mo.op = .inv name x as) {t:TypeId} {v:AV} {vs:List AV} {f:FuncId} (hx:Qe F x=some (.ifc t v)) (hm:methF P t name=some f) (hent:Xj P f=true) (hv:XT F as=some vs) :
  Enters P o mo F f (v::vs):=by
 obtain ⟨e1,_⟩:=Q3 hc
 rw [hop] at e1
 intro S ρ a w hF
 cases ho:o.op with
 | call c =>
  rw [ho] at e1
  simp only [Q7,J0] at e1
  split at e1
  ·split at e1
   ·split at e1 <;> simp at e1
   ·cases e1
  ·split at e1 <;> simp at e1
  ·rename_i recv nm hcal
   split at e1
   ·rename_i rx as' hrx has
    injection e1 with e1
    injection e1 with e2 e3 e4
    subst e2 e3 e4
    obtain ⟨q1,q2⟩:=cargs_ok hF _ _ _ has (fun k hk=>by simp [MOper.slots,hop,MOp.slots,hk]) hv
    have hfv:=Qd hrx hF (fun k hk=>by simp [MOper.slots,hop,MOp.slots,hk]) hx
    obtain ⟨cx,e4,e5⟩:∃ cx,a.eval recv = .iface t cx/\VR w S ρ v cx:=by
     cases hfv with
     | cl h=>generalize a.eval recv=cc at h ⊢; cases h with
      | ifc _ _ cx h=>exact ⟨cx,rfl,.cl h⟩
    obtain ⟨k,hk⟩:∃ k,P.types.size+Made.depth=k+1:=⟨P.types.size+99,rfl⟩
    have earr:c.args.map a.eval=(c.args.toList.map a.eval).toArray:=by rw [← Array.toList_map,Array.toArray_toList]
    refine ⟨#[cx]++c.args.map a.eval,?_,by rw [earr]; simp at q1; simp [q1],fun j u hj=>?_⟩
    ·have hext:(#[Value.iface t cx]++c.args.map a.eval).extract 1 (#[Value.iface t cx]++c.args.map a.eval).size=c.args.map a.eval:=by
      apply Array.ext'
      simp [List.take_of_length_le]
     simp only [execOp,ho,Sem.run_bind,resolve,hcal,Sem.run_pure,Result.andThen_ok,e4,invoke]
     simp only [Array.getElem?_append,callMethod,hext]
     simp [Sem.run_bind,run_program,hk,run_method hm,XU hent]
    ·cases j with
     | zero =>
      simp at hj; subst hj
      rw [Array.getD_eq_getD_getElem?,Array.getElem?_append_left (by simp)]
      simpa using e5
     | succ j =>
      have:=q2 j u (by simpa using hj)
      rw [earr]
      rw [Array.getD_eq_getD_getElem?] at this ⊢
      rw [Array.getElem?_append_right (by simp)]
      simpa using this
   ·cases e1
  all_goals (repeat' split at e1) <;> simp at e1
 | _=>rw [ho] at e1; simp only [Q7,J2] at e1; (repeat' split at e1) <;> first | contradiction | (unfold JW at e1; (repeat' split at e1) <;> (cases e1; done)) | (cases e1; done) | (obtain ⟨r,_,e2⟩:=map_some e1; cases e2)
def Hands (H Hs:Hp) (rd:List Nat) (al:Bool) (vs vs':List AV):Prop :=
 ∀ (w:World) (S:Nat->Prop) (ρ:Rho) (C:Array Value),HRi (fun i=>i∈rd\/get Hs i≠none) w S ρ H->VRs w S ρ vs C →
  VRs w (fun b=>S b\/(al=false/\Jb ρ H (fun i=>i∈rd) b)) (fun i=>if get Hs i≠none then ρ i else none) vs' C
def FCg (sem:Array Value->World->(Ending->World->Prop)->Prop) (args:List AV) (H:Hp) (r:AV) (H':Hp) (al:Bool):Prop :=
 ∀ (w:World) (S:Nat->Prop) (ρ:Rho) (cargs:Array Value),HRF w S ρ (get H)->VRs w S ρ args cargs->sem cargs w fun e w'=>∃ cv S' ρ',e = .returned cv/\VR w' S' ρ' r cv/\HRF w' S' ρ' (get H') ∧
  Keep w w' (LiveF ρ (get H) All)/\(∀ b,S' b->(al=true/\S b)\/LiveF ρ (get H) All b\/w.heap.size<=b)/\(∀ b,LiveF ρ' (get H') All b->LiveF ρ (get H) All b\/w.heap.size<=b) ∧
  (∀ i,get H i≠none->ρ' i=ρ i)/\(∀ i,get H i≠none->get H' i≠none)
theorem fc_g {P:Program} {f:FuncId} {args:List AV} {H:Hp}:FC P f args H r H' al ↔ FCg (fun c w R=>Calls P f c w R) args H r H' al:=Iff.rfl
def SemMono (sem:Array Value->World->(Ending->World->Prop)->Prop):Prop:=∀ {c:Array Value} {w:World} {R R':Ending->World->Prop},(∀ e w',R e w'->R' e w')->sem c w R->sem c w R'
def EntersG (P:Program) (o:Oper) (mo:MOper) (F:Fr) (sem:Array Value->World->(Ending->World->Prop)->Prop) (vs:List AV):Prop :=
 ∀ (rn:Option Nat) (S:Nat->Prop) (ρ:Rho) (a:Act) (w:World),FRs mo.slots F a w S ρ->∃ cargs:Array Value,VRs w S ρ vs cargs/\∀ (K:Act->World->Prop) (Q:Exit->Act->World->Prop),
  sem cargs w (fun e w'=>∃ cv,e = .returned cv/\K (a.put o.dst cv) w')->o.wpIn (Fc rn) 0 P a w K Q
theorem Enters.g (hc:QN P N ops o=some mo) {f:FuncId} {vs:List AV} (he:Enters P o mo F f vs):EntersG P o mo F (fun c w R=>Calls P f c w R) vs:=fun rn S ρ a w hF=>by
 obtain ⟨cmp,_⟩:=Q3 hc
 obtain ⟨cargs,hrun,hvr⟩:=he S ρ a w hF
 refine ⟨cargs,hvr,fun K Q h=>wpIn_of_wp (compOp_nd cmp) ?_⟩
 unfold Oper.wp
 rw [hrun]
 exact Calls.mono h fun e w' ⟨cv,he,hk⟩=>by subst he; exact hk
theorem call_core (hmono:SemMono sem) {vs:List AV}
 (hfc:FCg sem vs' Hs r H' al) (hh:Hands H Hs rd al vs vs') (hal:al=false->Hs=[]) (hsub:∀ i ob,get Hs i=some ob->get H i=some ob)
  (hsc:∀ i ob,get Hs i=some ob->Q4 (Qa Hs) ob=true) (hrd:∀ i,i∈rd->get Hs i=none) (hnew:∀ i,get H' i≠none->get Hs i=none->get H i=none) (hdom:∀ i,get Hs i≠none->get H' i≠none)
 {cargs:Array Value} (hvr:VRs w S ρ vs cargs) (hS:∀ b,S b->b<w.heap.size) (hH:HRi (fun i=>i∈rd\/i∈Qa H') w S ρ H) (hnewρ:∀ i,i∈Qa H'->get H i=none->ρ i=none)
  {R:Ending->World->Prop} (hK:∀ cv w' S' ρ',VR w' S' ρ' r cv->HRi (fun i=>i∈rd\/i∈Qa H') w' S' ρ' (H'++H) →
   Ext w S (Jb ρ H fun i=>i∈rd\/i∈Qa H') ρ w' S' (Jb ρ' (H'++H) fun i=>i∈rd\/i∈Qa H') ρ' (fun i=>i∈Qa H'/\get H i=none)->R (.returned cv) w'):sem cargs w R:=by
 have hwr:∀ i,i∈Qa H' ↔ get H' i≠none:=fun i=>Qp
 have hI:∀ i,(i∈rd\/get Hs i≠none)->(i∈rd\/i∈Qa H'):=fun i hi=>hi.imp id fun h=>(hwr i).2 (hdom i h)
 have hHI:HRi (fun i=>i∈rd\/get Hs i≠none) w S ρ H:=⟨fun i ob hi=>hH.ob i ob (hI i hi),fun i j oi oj b z z' c c' hi hj=>hH.dis i j oi oj b z z' c c' (hI i hi) (hI j hj)⟩
 have hargs:=hh w S ρ cargs hHI hvr
 -- facts on blocks
 have liveRd:∀ i ob b z cap,(i∈rd\/i∈Qa H')->get H i=some ob->ob.live=true->ρ i=some (some b,z,cap)->¬ S b/\b<w.heap.size:=fun i ob b z cap hi hgi hl hr=>by
  obtain ⟨bk,z1,c1,q1,q2⟩:=hH.ob i ob hi hgi
  rw [hr] at q1
  injection q1 with q1
  obtain ⟨rfl,rfl,rfl⟩:some b=bk/\z=z1/\cap=c1:=by simpa using q1
  cases ob with
  | dead=>cases hl
  | glob g0 cs0=>cases hl
  | cells e1 z1 els1 fl1 =>
   obtain ⟨_,q3,_,C,q4,_⟩:=q2
   exact ⟨q3,(Array.getElem?_eq_some_iff.1 q4).1⟩
  | lp r1 Fl1 =>
   obtain ⟨b1,e1,q3,q4,_⟩:=q2
   injection e1 with e1; subst e1
   exact ⟨q3,(Array.getElem?_eq_some_iff.1 q4).1⟩
  | fm kvs =>
   obtain ⟨b1,es,clk,e1,q3,q4,_⟩:=q2
   injection e1 with e1; subst e1
   exact ⟨q3,(Array.getElem?_eq_some_iff.1 q4).1⟩
  | mset ks =>
   obtain ⟨b1,es,clk,e1,q3,q4,_⟩:=q2
   injection e1 with e1; subst e1
   exact ⟨q3,(Array.getElem?_eq_some_iff.1 q4).1⟩
 let Sc:Nat->Prop:=fun b=>S b\/(al=false/\Jb ρ H (fun i=>i∈rd) b)
 let ρs:Rho:=fun i=>if get Hs i≠none then ρ i else none
 have hρs:∀ i,get Hs i≠none->ρs i=ρ i:=fun i hi=>if_pos hi
 have hHs:HRF w Sc ρs (get Hs):=by
  refine ⟨fun b hb=>?_,fun i hi=>?_,⟨fun i ob _ hgi=>?_,fun i j oi oj b z z' c c' _ _ hne hgi hgj hli hlj hri hrj=>?_⟩⟩
  ·rcases hb with hb | ⟨_,i,ob,z,cap,hi,hgi,hl,hr⟩
   ·exact hS b hb
   ·exact (liveRd i ob b z cap (.inl hi) hgi hl hr).2
  ·simp [ρs,hi]
  ·have hne:get Hs i≠none:=by rw [hgi]; simp
   obtain ⟨bk,z,cap,q1,q2⟩:=hH.ob i ob (hI i (.inr hne)) (hsub i ob hgi)
   refine ⟨bk,z,cap,by rw [hρs i hne]; exact q1,?_⟩
   have q3:=q2.scope (ρ':=ρs) (hsc i ob hgi) (fun k hk=>hρs k (Qp.1 hk))
   refine OR.mono (w':=w) (S':=Sc) (ρ':=ρs) (fun b hb=>.inl hb) (fun _ _ _ h=>h) (fun _ _ h=>h) (fun b hb hl=>⟨rfl,fun hs=>?_⟩) q3
   subst hb
   rcases hs with hs | ⟨ha,_⟩
   ·exact (liveRd i ob b z cap (hI i (.inr hne)) (hsub i ob hgi) hl q1).1 hs
   ·rw [hal ha] at hgi; simp [get] at hgi
  ·have h1:get Hs i≠none:=by rw [hgi]; simp
   have h2:get Hs j≠none:=by rw [hgj]; simp
   rw [hρs i h1] at hri
   rw [hρs j h2] at hrj
   exact hH.dis i j oi oj b z z' c c' (hI i (.inr h1)) (hI j (.inr h2)) hne (hsub i oi hgi) (hsub j oj hgj) hli hlj hri hrj
 refine hmono (fun e w' ⟨cv,S',ρ',he,hv,hh',hk,hf,hown,hrho,_⟩=>?_) (hfc w Sc ρs cargs hHs hargs)
 subst he
 let Sn:Nat->Prop:=fun b=>S b\/S' b
 let ρn:Rho:=fun i=>if i∈Qa H' then ρ' i else ρ i
 have hρn:∀ i x,ρ' i=some x->ρn i=some x:=fun i x hx=>by
  have:i∈Qa H':=(hwr i).2 fun h=>by rw [hh'.dom i h] at hx; cases hx
  simp only [ρn]; rw [if_pos this]; exact hx
 have liveHs:∀ b,LiveF ρs (get Hs) All b->Jb ρ H (fun i=>i∈rd\/i∈Qa H') b:=fun b ⟨i,ob,z,cap,_,hgi,hl,hr⟩=>by
  have hne:get Hs i≠none:=by rw [hgi]; simp
  rw [hρs i hne] at hr
  exact ⟨i,ob,z,cap,hI i (.inr hne),hsub i ob hgi,hl,hr⟩
 have Sfresh:∀ b,S' b->S b\/LiveF ρs (get Hs) All b\/w.heap.size<=b:=fun b hb=>by
  rcases hf b hb with ⟨ha,hs⟩ | h | h
  ·rcases hs with hs | ⟨ha',_⟩
   ·exact .inl hs
   ·rw [ha] at ha'; cases ha'
  ·exact .inr (.inl h)
  ·exact .inr (.inr h)
 have cellS:∀ (a:Addr) (c:Value),S a.block->w.cell? a=some c->w'.cell? a=some c:=fun a c hs hc=>by
  refine hk.cell (fun hl=>?_) hc
  obtain ⟨i,ob,z,cap,hi,hgi,hl',hr⟩:=liveHs a.block hl
  exact (liveRd i ob _ z cap hi hgi hl' hr).1 hs
 have new_of:∀ i,i∈Qa H'->get H i≠none->get Hs i≠none:=fun i hi hne h=>hne (hnew i ((hwr i).1 hi) h)
 have ρn_old:∀ i,¬ (i∈Qa H'/\get H i=none)->ρn i=ρ i:=fun i hi=>by
  by_cases hw:i∈Qa H'
  ·have h1:get Hs i≠none:=new_of i hw fun h=>hi ⟨hw,h⟩
   simp only [ρn]; rw [if_pos hw,hrho i h1,hρs i h1]
  ·simp only [ρn]; rw [if_neg hw]
 have hρ_n:∀ i x,ρ i=some x->ρn i=some x:=fun i x hx=>by
  rw [ρn_old i fun ⟨h1,h2⟩=>by rw [hnewρ i h1 h2] at hx; cases hx]; exact hx
 -- an object that the callee was handed or has made
 have inH':∀ i ob,i∈Qa H'->get (H'++H) i=some ob->get H' i=some ob:=fun i ob hi hgi=>by
  rw [QU] at hgi
  cases h:get H' i with
  | none=>exact absurd h ((hwr i).1 hi)
  | some x=>rw [h] at hgi; simpa using hgi
 have notH':∀ i ob,i ∉ Qa H'->get (H'++H) i=some ob->get H i=some ob:=fun i ob hi hgi=>by
  have:get H' i=none:=by cases h:get H' i with
   | none=>rfl
   | some x=>exact absurd ((hwr i).2 (by rw [h]; simp)) hi
  rw [QU,this] at hgi; simpa using hgi
 have far:∀ i ob b z cap,i∈rd->i ∉ Qa H'->get H i=some ob->ob.live=true->ρ i=some (some b,z,cap)->¬ LiveF ρs (get Hs) All b:=fun i ob b z cap hi hni hgi hl hr ⟨k,ob',z',cap',_,hgk,hl',hrk⟩=>by
  have hne:get Hs k≠none:=by rw [hgk]; simp
  rw [hρs k hne] at hrk
  exact hH.dis i k ob ob' b z z' cap cap' (.inl hi) (hI k (.inr hne)) (fun e=>hne (by rw [← e]; exact hrd i hi)) hgi (hsub k ob' hgk) hl hl' hr hrk
 refine hK cv w' Sn ρn (hv.mono (fun b hb=>.inr hb) (fun _ _ _ h=>h) hρn) ⟨fun i ob hi hgi=>?_,fun i j oi oj b z z' c c' hi hj hne hgi hgj hli hlj hri hrj=>?_⟩
  ⟨hk.mono liveHs,fun b hb=>.inl hb,fun b hb=>hb.elim .inl (fun h=>(Sfresh b h).imp id fun h=>h.imp (liveHs b) id),fun b hb=>hb.elim (fun h=>Nat.lt_of_lt_of_le (hS b h) hk.size) (hh'.hS b),fun b hb=>?_,ρn_old⟩
 ·by_cases hw':i∈Qa H'
  ·have h1:=inH' i ob hw' hgi
   obtain ⟨bk,z,cap,q1,q2⟩:=hh'.at_.ob i ob trivial h1
   refine ⟨bk,z,cap,hρn i _ q1,q2.mono (fun b hb=>.inr hb) (fun _ _ _ h=>h) hρn fun b hb hl=>⟨rfl,fun hs=>?_⟩⟩
   subst hb
   rcases hs with hs | hs
   ·rcases hown b ⟨i,ob,z,cap,trivial,h1,hl,q1⟩ with h | h
    ·obtain ⟨k,ob',z',cap',hk1,hgk,hlk,hrk⟩:=liveHs b h
     exact (liveRd k ob' b z' cap' hk1 hgk hlk hrk).1 hs
    ·have:=hS b hs; omega
   ·exact (hh'.cells_ne h1 hl q1).1 hs
  ·have hi':i∈rd:=hi.resolve_right hw'
   have h1:=notH' i ob hw' hgi
   obtain ⟨bk,z,cap,q1,q2⟩:=hH.ob i ob hi h1
   refine ⟨bk,z,cap,hρ_n i _ q1,q2.mono (fun b hb=>.inl hb) cellS hρ_n fun b hb hl=>?_⟩
   subst hb
   obtain ⟨g1,g2⟩:=liveRd i ob b z cap hi h1 hl q1
   exact ⟨hk.block b g2 (far i ob b z cap hi' hw' h1 hl q1),fun hs=>hs.elim g1 fun hs=>(Sfresh b hs).elim g1 fun h=>h.elim (far i ob b z cap hi' hw' h1 hl q1) (by omega)⟩
 ·-- distinct
  have mixed:∀ i j oi oj z z' c c',i∈Qa H'->j ∉ Qa H'->j∈rd->get H' i=some oi->get H j=some oj->oi.live=true->oj.live=true->ρ' i=some (some b,z,c)->ρ j=some (some b,z',c')->False:=by
   intro i j oi oj z z' c c' hi hj hjr hgi hgj hli hlj hri hrj
   rcases hown b ⟨i,oi,z,c,trivial,hgi,hli,hri⟩ with h | h
   ·exact far j oj b z' c' hjr hj hgj hlj hrj h
   ·have:=(liveRd j oj b z' c' (.inl hjr) hgj hlj hrj).2; omega
  by_cases hwi:i∈Qa H'
  ·have hgi':=inH' i oi hwi hgi
   simp only [ρn] at hri
   rw [if_pos hwi] at hri
   by_cases hwj:j∈Qa H'
   ·simp only [ρn] at hrj
    rw [if_pos hwj] at hrj
    exact hh'.at_.dis i j oi oj b z z' c c' trivial trivial hne hgi' (inH' j oj hwj hgj) hli hlj hri hrj
   ·simp only [ρn] at hrj
    rw [if_neg hwj] at hrj
    exact mixed i j oi oj z z' c c' hwi hwj (hj.resolve_right hwj) hgi' (notH' j oj hwj hgj) hli hlj hri hrj
  ·have hgi':=notH' i oi hwi hgi
   simp only [ρn] at hri
   rw [if_neg hwi] at hri
   by_cases hwj:j∈Qa H'
   ·simp only [ρn] at hrj
    rw [if_pos hwj] at hrj
    exact mixed j i oj oi z' z c' c hwj hwi (hi.resolve_right hwi) (inH' j oj hwj hgj) hgi' hlj hli hrj hri
   ·simp only [ρn] at hrj
    rw [if_neg hwj] at hrj
    exact hH.dis i j oi oj b z z' c c' hi hj hne hgi' (notH' j oj hwj hgj) hli hlj hri hrj
 ·obtain ⟨i,ob,z,cap,hi,hgi,hl,hr⟩:=hb
  by_cases hwi:i∈Qa H'
  ·simp only [ρn] at hr
   rw [if_pos hwi] at hr
   rcases hown b ⟨i,ob,z,cap,trivial,inH' i ob hwi hgi,hl,hr⟩ with h | h
   ·exact .inl (liveHs b h)
   ·exact .inr h
  ·simp only [ρn] at hr
   rw [if_neg hwi] at hr
   exact .inl ⟨i,ob,z,cap,hi,notH' i ob hwi hgi,hl,hr⟩
theorem step_callg (hmono:SemMono sem) (hc:QN P N ops o=some mo) (hg:mo.guard=none\/∃ g want,mo.guard=some (g,want)/\get F g=some (.bool want)) {vs:List AV} (he:EntersG P o mo F sem vs)
 (hfc:FCg sem vs' Hs r H' al) (hh:Hands H Hs rd al vs vs') (hal:al=false->Hs=[]) (hsub:∀ i ob,get Hs i=some ob->get H i=some ob)
  (hsc:∀ i ob,get Hs i=some ob->Q4 (Qa Hs) ob=true) (hrd:∀ i,i∈rd->get Hs i=none) (hnew:∀ i,get H' i≠none->get Hs i=none->get H i=none) (hdom:∀ i,get Hs i≠none->get H' i≠none) :
  StepM P N ops o mo F H rd (Qa H') r (H'++H):=by
 have hwr:∀ i,i∈Qa H' ↔ get H' i≠none:=fun i=>Qp
 refine ⟨fun i hi=>?_,fun i hi=>?_,fun rn S ρ a w Q K hout hN hF hS hH hnewρ hK=>?_⟩
 ·rw [hwr] at hi
  have:get H' i=none:=by cases h:get H' i <;> simp_all
  rw [QU,this]; rfl
 ·rw [hwr] at hi
  rw [QU]
  cases h:get H' i with
  | none=>exact absurd h hi
  | some ob=>rfl
 ·have hw:=guard_wanted hc hF hg
  unfold wpG
  rw [if_pos hw]
  obtain ⟨cargs,hvr,hgo⟩:=he rn S ρ a w hF
  exact hgo K Q (call_core (sem:=sem) (fun h=>hmono h) hfc hh hal hsub hsc hrd hnew hdom hvr hS hH hnewρ fun cv w' S' ρ' h1 h2 h3=>⟨cv,rfl,hK cv w' S' ρ' h1 h2 h3⟩)
theorem JC (hc:QN P N ops o=some mo) (hg:mo.guard=none\/∃ g want,mo.guard=some (g,want)/\get F g=some (.bool want)) {f:FuncId} {vs:List AV} (he:Enters P o mo F f vs)
 (hfc:FC P f vs' Hs r H' al) (hh:Hands H Hs rd al vs vs') (hal:al=false->Hs=[]) (hsub:∀ i ob,get Hs i=some ob->get H i=some ob)
  (hsc:∀ i ob,get Hs i=some ob->Q4 (Qa Hs) ob=true) (hrd:∀ i,i∈rd->get Hs i=none) (hnew:∀ i,get H' i≠none->get Hs i=none->get H i=none) (hdom:∀ i,get Hs i≠none->get H' i≠none) :
  StepM P N ops o mo F H rd (Qa H') r (H'++H) :=
 step_callg (sem:=fun c w R=>Calls P f c w R) (fun hr h=>Calls.mono h hr) hc hg (he.g hc) (fc_g.1 hfc) hh hal hsub hsc hrd hnew hdom
end
end Go.Proofs.YthmbjgnjfjjibaaGreatDoor
namespace Go.Proofs.YthmbjgnjfjjibaaGreatDoor
open Go.RowKit
set_option maxRecDepth 100000
variable {Ds:List Nat}
variable {N:Nat}
variable {F F0:Fr}
variable {al:Bool}
variable {H H0:Hp}
variable {ρ:Rho}
variable {S S':Nat->Prop} {w w':World}
mutual
def noRO:AV->Bool
 | .bnd _ v=>noRO v
 | .rp _=>false
 | .rs _ _=>false
 | .fn _ caps=>noROL caps
 | .agg cs=>noROL cs
 | .tup cs=>noROL cs
 | .ifc _ v=>noRO v
 | .bm _ v=>noRO v
 | _=>true
def noROL:List AV->Bool
 | []=>true
 | v::l=>noRO v&&noROL l
end
theorem Jr:∀ {l:List AV} {v:AV},noROL l=true->v∈l->noRO v=true
 | u::l,v,h,hv=>by
  simp only [noROL,Bool.and_eq_true] at h
  rcases List.mem_cons.1 hv with rfl | hv
  ·exact h.1
  ·exact Jr h.2 hv
theorem CR.noRO {v:AV} {c:Value} (h:CR w S v c) (hn:noRO v=true):CR w' S' v c:=by
 induction h with
 | any c=>exact .any c
 | und=>exact .und
 | bool b=>exact .bool b
 | int k n=>exact .int k n
 | str s=>exact .str s
 | nilp=>exact .nilp
 | rp=>simp [YthmbjgnjfjjibaaGreatDoor.noRO] at hn
 | nils=>exact .nils
 | rs0=>simp [YthmbjgnjfjjibaaGreatDoor.noRO] at hn
 | rs=>simp [YthmbjgnjfjjibaaGreatDoor.noRO] at hn
 | fn f caps C hl _ ih =>
  simp only [YthmbjgnjfjjibaaGreatDoor.noRO] at hn
  exact .fn f caps C hl fun j v hj=>ih j v hj (Jr hn (List.mem_of_getElem? hj))
 | nilf=>exact .nilf
 | agg cs C hl h1 _ ih =>
  simp only [YthmbjgnjfjjibaaGreatDoor.noRO] at hn
  exact .agg cs C hl h1 fun j v hj=>ih j v hj (Jr hn (List.mem_of_getElem? hj))
 | tup cs C hl _ ih =>
  simp only [YthmbjgnjfjjibaaGreatDoor.noRO] at hn
  exact .tup cs C hl fun j v hj=>ih j v hj (Jr hn (List.mem_of_getElem? hj))
 | nilm=>exact .nilm
 | anyb b=>exact .anyb b
 | nili=>exact .nili
 | ifc t v c _ ih=>exact .ifc t v c (ih (by simpa [YthmbjgnjfjjibaaGreatDoor.noRO] using hn))
 | bm name v c _ ih=>exact .bm name v c (ih (by simpa [YthmbjgnjfjjibaaGreatDoor.noRO] using hn))
theorem VR.noRO {v:AV} {c:Value} (h:VR w S ρ v c) (hn:noRO v=true):VR w' S' ρ v c:=by
 induction h with
 | cl h=>exact .cl (h.noRO hn)
 | ptr i j o b z cap h=>exact .ptr i j o b z cap h
 | sl i j n b z cap cap' h hc hl=>exact .sl i j n b z cap cap' h hc hl
 | sl0 i z h=>exact .sl0 i z h
 | sa i j o n b z cap cap' h hl=>exact .sa i j o n b z cap cap' h hl
 | fn f caps C hl _ ih =>
  simp only [YthmbjgnjfjjibaaGreatDoor.noRO] at hn
  exact .fn f caps C hl fun j v hj=>ih j v hj (Jr hn (List.mem_of_getElem? hj))
 | agg cs C hl h1 _ ih =>
  simp only [YthmbjgnjfjjibaaGreatDoor.noRO] at hn
  exact .agg cs C hl h1 fun j v hj=>ih j v hj (Jr hn (List.mem_of_getElem? hj))
 | tup cs C hl _ ih =>
  simp only [YthmbjgnjfjjibaaGreatDoor.noRO] at hn
  exact .tup cs C hl fun j v hj=>ih j v hj (Jr hn (List.mem_of_getElem? hj))
 | mp i b z cap h=>exact .mp i b z cap h
 | yl i b z cap h=>exact .yl i b z cap h
 | bnd f v c _ ih =>
  simp only [YthmbjgnjfjjibaaGreatDoor.noRO] at hn
  exact .bnd f v c (ih hn)
def zOf:Ob->Nat
 | .dead=>0
 | .glob _ _=>0
 | .cells _ z _ _=>z
 | .mset _=>0
 | .fm _=>0
 | .lp _ _=>0
def rhoW (H H0:Hp) (ρ:Rho):Rho:=fun i=>match get H0 i with
 | none=>none
 | some ob=>match get H i with
  | some _=>ρ i
  | none=>some (none,zOf ob,0)
def Sw (H H0:Hp) (al:Bool) (S:Nat->Prop) (ρ:Rho):Nat->Prop:=fun b=>(al=true/\S b)\/LiveF ρ (get H) (fun i=>get H0 i=none) b
def RC (H H0:Hp) (al:Bool) (v r:AV):Prop:=∀ (S:Nat->Prop) (ρ:Rho) (w:World) (c:Value),HRF w S ρ (get H)->VR w S ρ v c->VR w (Sw H H0 al S ρ) (rhoW H H0 ρ) r c
theorem rhoW_kept {i:Nat} (h0:get H0 i≠none) (h:get H i≠none):rhoW H H0 ρ i=ρ i:=by
 unfold rhoW
 cases h1:get H0 i with
 | none=>exact absurd h1 h0
 | some ob=>cases h2:get H i with
  | none=>exact absurd h2 h
  | some _=>rfl
theorem HRF.named (hh:HRF w S ρ (get H)) {i:Nat} {x:Option Nat×Nat×Nat} (h:ρ i=some x):get H i≠none:=fun h0=>by rw [hh.dom i h0] at h; cases h
theorem VR.rhoW {v:AV} {c:Value} (h:VR w S ρ v c) (hh:HRF w S ρ (get H)) (hs:Qr (Qa H0) v=true):VR w S (rhoW H H0 ρ) v c:=by
 have key:∀ i x,(Qa H0).contains i=true->ρ i=some x->YthmbjgnjfjjibaaGreatDoor.rhoW H H0 ρ i=some x:=fun i x hi hx=>by
  rw [rhoW_kept (Qp.1 (by simpa using hi)) (hh.named hx)]; exact hx
 induction h with
 | cl h=>exact .cl h
 | ptr i j o b z cap h=>exact .ptr i j o b z cap (key i _ hs h)
 | sl i j n b z cap cap' h hc hn=>exact .sl i j n b z cap cap' (key i _ hs h) hc hn
 | sl0 i z h=>exact .sl0 i z (key i _ hs h)
 | sa i j o n b z cap cap' h hn=>exact .sa i j o n b z cap cap' (key i _ hs h) hn
 | fn f caps C hn _ ih =>
  simp only [Qr] at hs
  exact .fn f caps C hn fun j v hj=>ih j v hj (Xf hs (List.mem_of_getElem? hj))
 | agg cs C hn h1 _ ih =>
  simp only [Qr] at hs
  exact .agg cs C hn h1 fun j v hj=>ih j v hj (Xf hs (List.mem_of_getElem? hj))
 | tup cs C hn _ ih =>
  simp only [Qr] at hs
  exact .tup cs C hn fun j v hj=>ih j v hj (Xf hs (List.mem_of_getElem? hj))
 | mp i b z cap h=>exact .mp i b z cap (key i _ hs h)
 | yl i b z cap h=>exact .yl i b z cap (key i _ hs h)
 | bnd f v c _ ih =>
  simp only [Qr] at hs
  exact .bnd f v c (ih hs)
theorem Xq {v:AV} (hs:Qr (Qa H0) v=true) (hn:al=true\/noRO v=true):RC H H0 al v v:=fun S ρ w c hh h=>by
 have h1:=h.rhoW hh hs
 rcases hn with rfl | hn
 ·exact h1.mono (fun b hb=>.inl ⟨rfl,hb⟩) (fun _ _ _ h=>h) (fun _ _ h=>h)
 ·exact h1.noRO hn
theorem rc_nils {z:Nat}:RC H H0 al .nils (.rs z []):=fun S ρ w c _ h=>by
 rw [h.nils_inv]; exact .cl (.rs0 z none 0)
theorem rc_virt {i e z:Nat} {fl:Bool} (h:get H i=none) (h0:get H0 i=some (.cells e z [] fl)):RC H H0 al .nils (.sl i 0 0):=fun S ρ w c _ hv=>by
 rw [hv.nils_inv]
 exact .sl0 i z (by simp [rhoW,h,h0,zOf])
theorem rc_freeze {i e z j n:Nat} {els:List (List AV)} (h:get H i=some (.cells e z els true)) (h0:get H0 i=none) (hb:j+n<=els.length)
  (hn:al=true\/∀ el∈els,∀ v∈el,noRO v=true):RC H H0 al (.sl i j n) (.rs z ((els.drop j).take n)):=fun S ρ w c hh hv=>by
 have hlen:((els.drop j).take n).length=n:=by simp; omega
 rcases hv.sl_inv with ⟨b,z0,cap,cap',hρ,hjc,hnc,rfl⟩ | ⟨z0,hρ,rfl,rfl,rfl⟩
 ·obtain ⟨bk,z1,c1,q1,hz,q2⟩:=hh.at_.ob i _ trivial h
  rw [hρ] at q1
  injection q1 with q1
  obtain ⟨rfl,rfl,rfl⟩:some b=bk/\z0=z1/\cap=c1:=by simpa using q1
  subst hz
  obtain ⟨hs,hm,C,hC,e1,e2,e3,e4⟩:=q2
  have hSb:Sw H H0 al S ρ b:=.inr ⟨i,_,z,cap,h0,h,rfl,hρ⟩
  have hcell:∀ (q:Nat) (el:List AV) (k:Nat) (u:AV),((els.drop j).take n)[q]?=some el->el[k]?=some u->els[j+q]?=some el/\q<n:=fun q el k u hq _=>by
   rw [List.getElem?_take] at hq
   split at hq
   ·rw [List.getElem?_drop] at hq; exact ⟨hq,by assumption⟩
   ·cases hq
  have hq:=CR.rs (w:=w) (S:=Sw H H0 al S ρ) z ((els.drop j).take n) b (j*z) cap' (fun q k=>C.getD ((j+q)*z+k) undef) hSb (by omega)
   (fun q el k u hq hk=>by
    obtain ⟨h1,h2⟩:=hcell q el k u hq hk
    obtain ⟨g1,g2⟩:=e4 (j+q) el k u h1 hk
    have hkz:k<z:=Nat.lt_of_lt_of_le (List.getElem?_eq_some_iff.1 hk).1 (e3 _ el h1)
    have hlt:(j+q)*z+k<C.size:=by
     rw [e1]
     calc (j+q)*z+k<(j+q)*z+z:=by omega
      _=(j+q+1)*z:=by rw [Nat.add_mul (j+q),Nat.one_mul]
      _<=cap*z:=Nat.mul_le_mul_right _ (by omega)
    refine ⟨?_,g1⟩
    rw [← Nat.add_mul,cell_of_row w b _ C e (0,0) hC]
    exact getD_some hlt)
   (fun q el k u hq hk=>by
    obtain ⟨h1,h2⟩:=hcell q el k u hq hk
    obtain ⟨_,g2⟩:=e4 (j+q) el k u h1 hk
    rw [if_pos rfl] at g2
    rcases hn with rfl | hn
    ·exact g2.mono (fun b hb=>.inl ⟨rfl,hb⟩) (fun _ _ _ h=>h)
    ·exact g2.noRO (hn el (List.mem_of_getElem? h1) u (List.mem_of_getElem? hk)))
  rw [hlen] at hq
  exact .cl hq
 ·simp; exact .cl (.rs0 z none 0)
inductive RCs (H H0:Hp) (al:Bool):List AV->List AV->Prop where
 | nil:RCs H H0 al [] []
 | cons {v r:AV} {vs rs:List AV} (h:RC H H0 al v r) (hs:RCs H H0 al vs rs):RCs H H0 al (v::vs) (r::rs)
theorem RCs.at_ {vs rs:List AV} (h:RCs H H0 al vs rs):vs.length=rs.length/\∀ (j:Nat) (r:AV),rs[j]?=some r->∃ v,vs[j]?=some v/\RC H H0 al v r:=by
 induction h with
 | nil=>exact ⟨rfl,fun j r h=>by simp at h⟩
 | cons h _ ih =>
  refine ⟨by simp [ih.1],fun j r hj=>?_⟩
  cases j with
  | zero=>simp at hj; subst hj; exact ⟨_,rfl,h⟩
  | succ j=>simpa using ih.2 j r (by simpa using hj)
theorem rc_tup {vs rs:List AV} (h:RCs H H0 al vs rs):RC H H0 al (.tup vs) (.tup rs):=fun S ρ w c hh hv=>by
 obtain ⟨C,rfl,hn,h2⟩:=hv.tup_inv
 obtain ⟨e1,e2⟩:=h.at_
 refine .tup rs C (by rw [hn,e1]) fun j r hj=>?_
 obtain ⟨v,g1,g2⟩:=e2 j r hj
 exact g2 S ρ w _ hh (h2 j v g1)
theorem rc_agg {vs rs:List AV} (h:RCs H H0 al vs rs):RC H H0 al (.agg vs) (.agg rs):=fun S ρ w c hh hv=>by
 obtain ⟨C,rfl,hn,h1,h2⟩:=hv.agg_inv
 obtain ⟨e1,e2⟩:=h.at_
 refine .agg rs C (by rw [hn,e1]) (fun j r hj=>?_) fun j r hj=>?_
 ·obtain ⟨v,g1,_⟩:=e2 j r hj
  exact h1 j v g1
 ·obtain ⟨v,g1,g2⟩:=e2 j r hj
  exact g2 S ρ w _ hh (h2 j v g1)
def KeptH (H H0:Hp) (al:Bool):Prop:=∀ i ob,get H0 i=some ob →
 (get H i=some ob/\Q4 (Qa H0) ob=true/\(al=true\/(((∀ r Fl,ob ≠ .lp r Fl)/\∀ g cs,ob ≠ .glob g cs)/\∀ e z els fl,ob = .cells e z els fl->∀ el∈els,∀ v∈el,noRO v=true))) ∨
 (get H i=none/\∃ e z fl,ob = .cells e z [] fl)
theorem keptH_nil:KeptH H [] al:=fun i ob h=>by simp [get] at h
theorem hrf_weak (hk:KeptH H H0 al) (hh:HRF w S ρ (get H)):HRF w (Sw H H0 al S ρ) (rhoW H H0 ρ) (get H0) ∧
  (∀ b,LiveF (rhoW H H0 ρ) (get H0) All b->LiveF ρ (get H) (fun i=>get H0 i≠none) b):=by
 have live:∀ i ob b z cap,get H0 i=some ob->ob.live=true->rhoW H H0 ρ i=some (some b,z,cap)->get H i=some ob/\ρ i=some (some b,z,cap):=fun i ob b z cap hi hl hr=>by
  rcases hk i ob hi with ⟨h1,_,_⟩ | ⟨h1,e,z',fl,rfl⟩
  ·refine ⟨h1,?_⟩
   rw [rhoW_kept (by rw [hi]; simp) (by rw [h1]; simp)] at hr; exact hr
  ·simp [rhoW,hi,h1] at hr
 refine ⟨⟨fun b hb=>?_,fun i hi=>by simp [rhoW,hi],⟨fun i ob _ hi=>?_,fun i j oi oj b z z' c c' _ _ hne hi hj hli hlj hri hrj=>?_⟩⟩,fun b ⟨i,ob,z,cap,_,hi,hl,hr⟩=>?_⟩
 ·rcases hb with ⟨_,hb⟩ | ⟨i,ob,z,cap,_,hg,hl,hr⟩
  ·exact hh.hS b hb
  ·exact (hh.cells_ne hg hl hr).2
 ·rcases hk i ob hi with ⟨h1,h2,h3⟩ | ⟨h1,e,z',fl,rfl⟩
  ·obtain ⟨bk,z,cap,q1,q2⟩:=hh.at_.ob i ob trivial h1
   refine ⟨bk,z,cap,by rw [rhoW_kept (by rw [hi]; simp) (by rw [h1]; simp)]; exact q1,?_⟩
   cases ob with
   | dead=>trivial
   | glob g cs =>
    have ha:al=true:=h3.resolve_right fun h=>h.1.2 _ _ rfl
    exact CR.mono (fun b hb=>.inl ⟨ha,hb⟩) (fun _ _ _ h=>h) q2
   | lp r1 Fl1 =>
    obtain ⟨b,e1,g0,g1,g2⟩:=q2
    subst e1
    have ha:al=true:=h3.resolve_right fun h=>h.1.1 _ _ rfl
    refine ⟨b,rfl,fun hs=>?_,g1,fun t v hv=>?_⟩
    ·rcases hs with ⟨_,hs⟩ | ⟨k,ob',z2,c2,hk0,hgk,hlk,hrk⟩
     ·exact g0 hs
     ·exact hh.at_.dis i k _ ob' b z z2 cap c2 trivial trivial (fun e=>by rw [e,hk0] at hi; cases hi) h1 hgk rfl hlk q1 hrk
    ·exact ((g2 t v hv).rhoW hh (Xf h2 (List.mem_map_of_mem (f:=(·.2)) hv))).mono (fun b hb=>.inl ⟨ha,hb⟩) (fun _ _ _ h=>h) (fun _ _ h=>h)
   | fm kvs=>cases h2
   | mset ks =>
    obtain ⟨b,es,clk,e1,g0,g1,g2⟩:=q2
    subst e1
    refine ⟨b,es,clk,rfl,fun hs=>?_,g1,g2⟩
    rcases hs with ⟨_,hs⟩ | ⟨k,ob',z2,c2,hk0,hgk,hlk,hrk⟩
    ·exact g0 hs
    ·exact hh.at_.dis i k _ ob' b z z2 cap c2 trivial trivial (fun e=>by rw [e,hk0] at hi; cases hi) h1 hgk rfl hlk q1 hrk
   | cells e z' els fl =>
    obtain ⟨hz,q2⟩:=q2
    refine ⟨hz,?_⟩
    cases bk with
    | none=>exact q2
    | some b =>
     obtain ⟨g0,hm,C,hC,g1,g2,g3,g4⟩:=q2
     refine ⟨fun hs=>?_,hm,C,hC,g1,g2,g3,fun j el o v hj ho=>?_⟩
     ·rcases hs with ⟨_,hs⟩ | ⟨k,ob',z2,c2,hk0,hgk,hlk,hrk⟩
      ·exact g0 hs
      ·exact hh.at_.dis i k _ ob' b z z2 cap c2 trivial trivial (fun e=>by rw [e,hk0] at hi; cases hi) h1 hgk rfl hlk q1 hrk
     ·obtain ⟨f1,f2⟩:=g4 j el o v hj ho
      refine ⟨f1,?_⟩
      have hno:al=true\/noRO v=true:=h3.imp id fun h=>h.2 e z' els fl rfl el (List.mem_of_getElem? hj) v (List.mem_of_getElem? ho)
      by_cases hf:fl=true
      ·rw [if_pos hf] at f2 ⊢
       rcases hno with rfl | hno
       ·exact f2.mono (fun b hb=>.inl ⟨rfl,hb⟩) (fun _ _ _ h=>h)
       ·exact f2.noRO hno
      ·have hf':fl=false:=by simpa using hf
       subst hf'
       rw [if_neg (by simp)] at f2 ⊢
       exact Xq (Xf (scopedE_mem h2 (List.mem_of_getElem? hj)) (List.mem_of_getElem? ho)) hno S ρ w _ hh f2
  ·exact ⟨none,z',0,by simp [rhoW,hi,h1,zOf],rfl,rfl,rfl⟩
 ·obtain ⟨g1,g2⟩:=live i oi b z c hi hli hri
  obtain ⟨g3,g4⟩:=live j oj b z' c' hj hlj hrj
  exact hh.at_.dis i j oi oj b z z' c c' trivial trivial hne g1 g3 hli hlj g2 g4
 ·obtain ⟨g1,g2⟩:=live i ob b z cap hi hl hr
  exact ⟨i,ob,z,cap,(by show get H0 i≠none; rw [hi]; simp),g1,hl,g2⟩
inductive KeptF (H H0:Hp) (F:Fr):Fr->Prop where
 | nil:KeptF H H0 F []
 | cons {t:Nat} {v v0:AV} {F0:Fr} (h:get F t=some v) (hv:RC H H0 true v v0) (hs:KeptF H H0 F F0):KeptF H H0 F ((t,v0)::F0)
theorem KeptF.at_ (h:KeptF H H0 F F0):∀ t v0,get F0 t=some v0->∃ v,get F t=some v/\RC H H0 true v v0:=by
 induction h with
 | nil=>intro t v0 h; simp [get] at h
 | cons h hv _ ih =>
  rename_i t v v0 F0 _
  intro t' u hu
  simp only [get] at hu
  split at hu
  ·rename_i e; subst e; injection hu with hu; subst hu; exact ⟨v,h,hv⟩
  ·exact ih t' u hu
theorem weak_of {Z:List Nat} (hF:KeptF H H0 F F0) (hH:KeptH H H0 true) (hZ:∀ i,i∈Z->i∈Qa H0):Weak N Z F H F0 H0:=fun S ρ a w hc=>by
 obtain ⟨g1,g2⟩:=hrf_weak hH hc.hp
 refine ⟨Sw H H0 true S ρ,rhoW H H0 ρ,⟨⟨hc.fr.size,fun t v hv=>?_⟩,hc.defers.keep (Keep.refl _ _) (fun b hb=>.inl (by obtain ⟨i,ob,z,cap,_,hg,hl,hr⟩:=g2 b hb; exact ⟨i,ob,z,cap,trivial,hg,hl,hr⟩)),g1,fun i hi=>Qp.1 (hZ i hi)⟩,⟨Keep.refl _ _,fun b hb=>.inl ⟨rfl,hb⟩,fun b hb=>?_,fun b hb=>?_,fun i hi=>?_⟩⟩
 ·obtain ⟨u,h1,h2⟩:=hF.at_ t v hv
  exact h2 S ρ w _ hc.hp (hc.fr.at_ t u h1)
 ·rcases hb with ⟨_,hb⟩ | ⟨i,ob,z,cap,_,hg,hl,hr⟩
  ·exact .inl hb
  ·exact .inr (.inl ⟨i,ob,z,cap,trivial,hg,hl,hr⟩)
 ·obtain ⟨i,ob,z,cap,_,hg,hl,hr⟩:=g2 b hb
  exact .inl ⟨i,ob,z,cap,trivial,hg,hl,hr⟩
 ·exact rhoW_kept (Qp.1 (hZ i hi)) (hc.z i hi)
def resV (P:Program) (F:Fr) (H:Hp):ResultVar->Option AV
 | .tmp t=>get F t
 | .cell a ty=>match get F a with
  | some (.ptr i j o)=>match get H i with
   | some (.cells _ _ els _)=>match els[j]? with
    | some el=>match aggP P ty,QL P ty with
     | some true,some n=>if o+n<=el.length then some (.agg ((el.drop o).take n)) else none
     | some false,some _=>el[o]?
     | _,_=>none
    | none=>none
   | _=>none
  | _=>none
def JD (P:Program) (F:Fr) (H:Hp):List ResultVar->Option (List AV)
 | []=>some []
 | x::l=>match resV P F H x,JD P F H l with
  | some v,some vs=>some (v::vs)
  | _,_=>none
def Xl:List AV->AV
 | [v]=>v
 | vs=>.tup vs
def RetQ (P:Program) (Z:List Nat) (rs:List ResultVar) (r:AV) (H':Hp) (al:Bool):Post:=fun e F H=>(e = .normal\/e = .ret)/\∃ vs,JD P F H rs=some vs/\RC H H' al (Xl vs) r/\KeptH H H' al ∧
 ∀ i,i∈Z->∃ ob,get H' i=some ob/\get H i≠none
def params:List AV->Nat->Fr
 | [],_=>[]
 | v::l,k=>(k,v)::params l (k+1)
theorem get_params:∀ (l:List AV) (k t:Nat) (v:AV),get (params l k) t=some v->k<=t/\l[t-k]?=some v
 | [],k,t,v,h=>by simp [params,get] at h
 | u::l,k,t,v,h=>by
  simp only [params,get] at h
  split at h
  ·rename_i e; subst e; injection h with h; subst h; simp
  ·rename_i hne
   obtain ⟨h1,h2⟩:=get_params l (k+1) t v h
   refine ⟨by omega,?_⟩
   rw [show t-k=(t-(k+1))+1 by omega]
   simpa using h2
section
variable {P:Program}
def rvRun (a:Act):ResultVar->Sem Value
 | .tmp t=>Pure.pure (a.tmps.getD t undef)
 | .cell b t=>do loadVar t (← asAddr (a.tmps.getD b undef))
theorem run_resV {a:Act} (hF:FRN N w S ρ (get F) a) (hH:HRF w S ρ (get H)):∀ (x:ResultVar) (v:AV),resV P F H x=some v →
  ∃ cv,(rvRun a x).run P w = .ok cv w/\VR w S ρ v cv
 | .tmp t,v,h=>⟨_,rfl,hF.at_ t v h⟩
 | .cell b ty,v,h=>by
  simp only [resV] at h
  split at h
  ·rename_i i j o hb
   split at h
   ·rename_i e z' els fl hi
    split at h
    ·rename_i el hj
     obtain ⟨bb,z,cap,hρ,e1⟩:=(hF.at_ b _ hb).ptr_inv
     obtain ⟨_,_,_,C,_,_,_,_,hc⟩:=Xz hH.at_ trivial hi hρ
     split at h
     ·rename_i n hg hz
      split at h
      ·rename_i hle
       injection h with h; subst h
       have hcell:∀ k,k<n->w.cell? ((⟨bb,j*z+o,none⟩:Addr).add k)=some (C.getD (j*z+(o+k)) undef):=fun k hk=>by
        have hk':el[o+k]?=some (el[o+k]'(by omega)):=List.getElem?_eq_getElem (by omega)
        rw [X7,Nat.add_assoc]
        exact (hc j el (o+k) _ hj hk').1
       refine ⟨.agg ((List.range n).map fun k=>C.getD (j*z+(o+k)) undef).toArray,?_,.agg _ _ (by simp; omega) (fun k v hk=>?_) (fun k v hk=>?_)⟩
       ·simp [rvRun,e1,asAddr,J4 hg hz w _ _ hcell]
       all_goals
        have hkn:k<n:=by
         have:=(List.getElem?_eq_some_iff.1 hk).1
         simp at this; omega
        rw [List.getElem?_take,if_pos hkn,List.getElem?_drop] at hk
        rw [JV hkn]
       ·exact (hc j el (o+k) v hj hk).2.1
       ·exact (hc j el (o+k) v hj hk).2.2
      ·cases h
     ·rename_i n hg hz
      obtain ⟨q1,_,q3⟩:=hc j el o v hj h
      exact ⟨_,by simp [rvRun,e1,asAddr,run_loadVar_one hg w _ _ q1],q3⟩
     ·cases h
    ·cases h
   ·cases h
  ·cases h
theorem run_resVs {F:Fr} {H:Hp} {w:World} {S:Nat->Prop} {ρ:Rho} {a:Act} {N:Nat} (hF:FRN N w S ρ (get F) a) (hH:HRF w S ρ (get H)):∀ (l:List ResultVar) (vs:List AV),JD P F H l=some vs →
  ∃ cs:List Value,(l.mapM (rvRun a)).run P w = .ok cs w/\cs.length=vs.length ∧
   ∀ (j:Nat) (v:AV),vs[j]?=some v->∃ c,cs[j]?=some c/\VR w S ρ v c
 | [],vs,h=>by simp [JD] at h; subst h; exact ⟨[],by simp,rfl,fun j v h=>by simp at h⟩
 | x::l,vs,h=>by
  simp only [JD] at h
  split at h
  ·rename_i v vs' h1 h2
   injection h with h; subst h
   obtain ⟨cv,g1,g2⟩:=run_resV (P:=P) hF hH x v h1
   obtain ⟨cs,g3,g4,g5⟩:=run_resVs hF hH l vs' h2
   refine ⟨cv::cs,?_,by simp [g4],fun j u hj=>?_⟩
   ·rw [List.mapM_cons]
    simp only [Sem.run_bind,g1,Result.andThen_ok,g3,Sem.run_pure]
   ·cases j with
    | zero=>simp at hj; subst hj; exact ⟨cv,rfl,g2⟩
    | succ j=>simpa using g5 j u (by simpa using hj)
  ·cases h
theorem quiet_cell (hD:∀ D∈Ds,w.heap[D]?=some (.deferred (some []))) (hk:Keep w w' (fun b=>b∈Ds)) {a:Addr} {c:Value} (hc:w.cell? a=some c):w'.cell? a=some c:=by
 refine hk.cell (fun h=>?_) hc
 have:=hD _ h
 unfold World.cell? at hc
 rw [this] at hc
 simp at hc
theorem quiet_hrf {h:Nat->Option Ob} (hh:HRF w S ρ h) (hD:∀ D∈Ds,w.heap[D]?=some (.deferred (some []))/\¬ LiveF ρ h All D) (hk:Keep w w' (fun b=>b∈Ds)):HRF w' S ρ h:=by
 refine ⟨fun b hb=>Nat.lt_of_lt_of_le (hh.hS b hb) hk.size,hh.dom,⟨fun i ob hi hg=>?_,hh.at_.dis⟩⟩
 obtain ⟨bk,z,cap,q1,q2⟩:=hh.at_.ob i ob hi hg
 refine ⟨bk,z,cap,q1,q2.mono (fun _ h=>h) (fun a c _ hc=>quiet_cell (fun D h=>(hD D h).1) hk hc) (fun _ _ h=>h) fun b hb hl=>?_⟩
 subst hb
 obtain ⟨g1,g2⟩:=hh.cells_ne hg hl q1
 exact ⟨hk.block b g2 fun hd=>(hD b hd).2 ⟨i,ob,z,cap,trivial,hg,hl,q1⟩,g1⟩
theorem leaves_marks {P:Program} {fn:Func} {tmps:Array Value} {R:Ending->World->Prop}:∀ (Ds:List Nat) (w:World),Ds.Nodup->(∀ D∈Ds,w.heap[D]?=some (.deferred (some []))) →
  (∀ w',Keep w w' (fun b=>b∈Ds)->LeavesIn Fence.wide 0 P fn tmps R [] .returning w')->LeavesInM Fence.wide 0 P fn tmps R (Ds.map fun D=>{ target:=.collected D,args := #[] }) .returning w
 | [],w,_,_,h=>h w (Keep.refl _ _)
 | D::Ds,w,hn,hD,h=>by
  obtain ⟨n1,n2⟩:=List.nodup_cons.1 hn
  have h0:=hD D (by simp)
  have hlt:=(Array.getElem?_eq_some_iff.1 h0).1
  have hk0:Keep w (w.putObj D (.deferred none)) (fun b=>b=D):=⟨rfl,rfl,rfl,by simp,fun k hk hne=>World.putObj_heap_other hne⟩
  refine ⟨by simp,.inl ⟨D,_,rfl,run_takeDeferred h0,leaves_marks Ds _ n2 (fun D' h'=>?_) fun w' hk=>h w' ?_⟩⟩
  ·have hne:D'≠D:=fun e=>n1 (e ▸ h')
   rw [hk0.block D' ((Array.getElem?_eq_some_iff.1 (hD D' (by simp [h']))).1) hne]
   exact hD D' (by simp [h'])
  ·exact (hk0.mono fun b hb=>by simp [hb]).trans hk fun b hb=>.inl (by simp [hb])
theorem fc_of_aw {f:FuncId} {fn:Func} {code:Code} {mc:MC} {args:List AV} {H':Hp} {r:AV} (hf:P.funcs[f]?=some fn) (hb:fn.body=some code) (hc:Qq P fn.ntmps code=some mc) (hn:args.length<=fn.ntmps)
  (h:AW P fn.ntmps (Qa H) none mc (RetQ P (Qa H) fn.results.toList r H' al) (params args 0) H):FC P f args H r H' al:=by
 intro w S ρ cargs hH hargs
 refine callsIn_wide.1 (callsIn_of_wp_marks (F:=Fence.wide) (n:=0) hf hb trivial ?_)
 have hsz:(cargs++Array.replicate (fn.ntmps-cargs.size) undef).size=fn.ntmps:=by simp [hargs.1]; omega
 have hcf:Conf fn.ntmps (Qa H) (params args 0) H S ρ { tmps:=cargs++Array.replicate (fn.ntmps-cargs.size) undef,defers:=[] } w:=by
  refine ⟨⟨hsz,fun t v hv=>?_⟩,Marks.nil _ _,hH,fun i hi=>Qp.1 hi⟩
  obtain ⟨_,h2⟩:=get_params args 0 t v hv
  rw [Nat.sub_zero] at h2
  have hl:t<cargs.size:=by rw [hargs.1]; exact (List.getElem?_eq_some_iff.1 h2).1
  have:=hargs.2 t v h2
  rw [Array.getD_eq_getD_getElem?] at this ⊢
  rw [Array.getElem?_append_left hl]; exact this
 refine wpIn_mono (h code hc S ρ _ w hcf) fun e a' w0 ⟨hfr,F',H'',S',ρ',⟨he,vs,hvs,hrc,hk,hz⟩,cf0,ex0⟩=>?_
 obtain ⟨Ds,d1,hDs⟩:=hfr.2
 replace d1:a'.defers=Ds.map (fun D=>({ target:=.collected D,args := #[] }:Deferred)):=by rw [d1]; exact List.append_nil _
 obtain ⟨d2,d3⟩:=cf0.defers
 have dcol:JG a'.defers=Ds:=by rw [d1]; have:=colD_map Ds []; rw [List.append_nil] at this; rw [this]; exact List.append_nil _
 rw [dcol] at d2 d3
 suffices hlv:LeavesInM Fence.wide 0 P fn a'.tmps (fun e w'=>∃ cv S' ρ',e = .returned cv/\VR w' S' ρ' r cv/\HRF w' S' ρ' (get H') ∧
   Keep w w' (LiveF ρ (get H) All)/\(∀ b,S' b->(al=true/\S b)\/LiveF ρ (get H) All b\/w.heap.size<=b)/\(∀ b,LiveF ρ' (get H') All b->LiveF ρ (get H) All b\/w.heap.size<=b) ∧
   (∀ i,get H i≠none->ρ' i=ρ i)/\(∀ i,get H i≠none->get H' i≠none)) a'.defers .returning w0 by
  rcases he with rfl | rfl <;> exact hlv
 rw [d1]
 refine leaves_marks Ds w0 d2 (fun D hD=>(d3 D hD).1) fun w' hq=>?_
 have hcell:∀ (a:Addr) (c:Value),w0.cell? a=some c->w'.cell? a=some c:=fun a c hc=>quiet_cell (fun D h=>(d3 D h).1) hq hc
 have cffr:FRN fn.ntmps w' S' ρ' (get F') a':=⟨cf0.fr.size,fun t v hv=>(cf0.fr.at_ t v hv).mono (fun _ h=>h) (fun a c _ hc=>hcell a c hc) (fun _ _ h=>h)⟩
 have cfhp:HRF w' S' ρ' (get H''):=quiet_hrf cf0.hp d3 hq
 have exkeep:Keep w w' (LiveF ρ (get H) All):=⟨hq.os.trans ex0.keep.os,hq.tape.trans ex0.keep.tape,hq.output.trans ex0.keep.output,Nat.le_trans ex0.keep.size hq.size,fun k hk1 hk2 =>
  (hq.block k (Nat.lt_of_lt_of_le hk1 ex0.keep.size) fun hd=>by have:=hDs k hd; omega).trans (ex0.keep.block k hk1 hk2)⟩
 obtain ⟨cs,g1,g2,g3⟩:=run_resVs (P:=P) cffr cfhp _ vs hvs
 obtain ⟨k1,k2⟩:=hrf_weak hk cfhp
 have hres:∃ cv,(results fn a'.tmps).run P w' = .ok cv w'/\VR w' S' ρ' (Xl vs) cv:=by
  have hm:(fn.results.mapM (rvRun a')).run P w' = .ok cs.toArray w':=by
   rw [Array.mapM_eq_mapM_toList]
   simp only [Sem.run_map,g1,Result.andThen_ok]
  refine ⟨if h:cs.toArray.size=1 then cs.toArray[0] else .tuple cs.toArray,?_,?_⟩
  ·have e0:results fn a'.tmps=(do let vs ← fn.results.mapM (rvRun a'); Pure.pure (if h:vs.size=1 then vs[0] else .tuple vs)):=by
    unfold results
    congr 2
   rw [e0,Sem.run_bind,hm]
   rfl
  ·match vs,cs,g2,g3 with
   | [],[],_,_=>exact .tup [] #[] rfl fun j v h=>by simp at h
   | [v],[c],_,g3 =>
    obtain ⟨c',h1,h2⟩:=g3 0 v rfl
    simp at h1; subst h1
    simpa [Xl] using h2
   | v1::v2::vs,c1::c2::cs,g2,g3 =>
    have hne:¬ ((c1::c2::cs).toArray.size=1):=by simp
    rw [dif_neg hne]
    refine .tup _ _ (by simpa using g2) fun j v hj=>?_
    obtain ⟨c,h1,h2⟩:=g3 j v hj
    have e:(c1::c2::cs).toArray.getD j undef=c:=by
     rw [Array.getD_eq_getD_getElem?,List.getElem?_toArray,h1]; rfl
    rw [e]; exact h2
 obtain ⟨cv,r1,r2⟩:=hres
 have r3:=hrc S' ρ' w' cv cfhp r2
 have hrho:∀ i,get H i≠none->rhoW H'' H' ρ' i=ρ i:=fun i hi=>by
  obtain ⟨ob,z1,z3⟩:=hz i (Qp.2 hi)
  rw [rhoW_kept (by rw [z1]; simp) z3]
  exact ex0.rho i (Qp.2 hi)
 have post:∃ v,(results fn a'.tmps).run P w' = .ok v w'/\∃ cv S2 ρ2,Ending.returned v = .returned cv/\VR w' S2 ρ2 r cv/\HRF w' S2 ρ2 (get H') ∧
   Keep w w' (LiveF ρ (get H) All)/\(∀ b,S2 b->(al=true/\S b)\/LiveF ρ (get H) All b\/w.heap.size<=b)/\(∀ b,LiveF ρ2 (get H') All b->LiveF ρ (get H) All b\/w.heap.size<=b) ∧
   (∀ i,get H i≠none->ρ2 i=ρ i)/\(∀ i,get H i≠none->get H' i≠none):=by
  refine ⟨cv,r1,cv,_,_,rfl,r3,k1,exkeep,fun b hb=>?_,fun b hb=>?_,hrho,fun i hi=>?_⟩
  ·rcases hb with ⟨ha,hb⟩ | ⟨i,ob,z,cap,_,hg,hl,hr⟩
   ·rcases ex0.fresh b hb with h1 | h1
    ·exact .inl ⟨ha,h1⟩
    ·exact .inr h1
   ·exact .inr (ex0.own b ⟨i,ob,z,cap,trivial,hg,hl,hr⟩)
  ·obtain ⟨i,ob,z,cap,_,hg,hl,hr⟩:=k2 b hb
   exact ex0.own b ⟨i,ob,z,cap,trivial,hg,hl,hr⟩
  ·obtain ⟨ob,z1,_⟩:=hz i (Qp.2 hi)
   rw [z1]; simp
 exact post
end
end Go.Proofs.YthmbjgnjfjjibaaGreatDoor
namespace Go.Proofs.YthmbjgnjfjjibaaGreatDoor
open Go.RowKit
set_option maxRecDepth 100000
def gOK (F:Fr):Option (Nat×Bool)->Bool
 | none=>true
 | some (t,w)=>match get F t with
  | some (.bool b)=>b == w
  | _=>false
def gNo (F:Fr):Option (Nat×Bool)->Bool
 | none=>false
 | some (t,w)=>match get F t with
  | some (.bool b)=>b == !w
  | some .und=>true
  | _=>false
variable {r:AV} {H':Hp} {vs':List AV} {as:List Arg}
variable {al:Bool} {Hs:Hp}
variable {rd:List Nat}
variable {op:BinOp} {k':IntKind}
variable {fl':Bool} {els':List (List AV)}
variable {cs':List AV}
variable {els:List (List AV)}
variable {dst:Option Nat}
section
variable {P:Program} {N:Nat} {F:Fr} {H:Hp} {ml:List MOper} {K:List Fp->Fr->Hp->Prop} {d:Nat} {g:Option (Nat×Bool)} {pre:List Nat}
theorem gOK_spec (h:gOK F g=true):g=none\/∃ t want,g=some (t,want)/\get F t=some (.bool want):=by
 cases g with
 | none=>exact .inl rfl
 | some q =>
  obtain ⟨t,w⟩:=q
  simp only [gOK] at h
  split at h
  ·rename_i b hb
   simp at h; subst h
   exact .inr ⟨t,b,rfl,hb⟩
  ·cases h
theorem XL {mo:MOper} (hg:gOK F mo.guard=true) (h:mev F H (mo.dst.getD 0) (fun v rd wr H1=>RS P N ml (putF F mo.dst v) H1 (fun fps=>K ((rd,wr)::fps))) mo.op):RS P N (mo::ml) F H K :=
 rs_cons fun ops o hc=>by
  obtain ⟨v,rd,wr,H1,hK,hs⟩:=stepM_op hc h (gOK_spec hg)
  exact ⟨v,rd,wr,H1,hs,hK⟩
theorem rs_skip {op:MOp} (hg:gNo F g=true) (h:RS P N ml (putF F dst .und) H (fun fps=>K (([],[])::fps))):RS P N (⟨dst,op,g,pre⟩::ml) F H K :=
 rs_cons fun ops o hc=>by
  cases g with
  | none=>simp [gNo] at hg
  | some q =>
   obtain ⟨t,w⟩:=q
   refine ⟨.und,[],[],H,stepM_skip hc rfl ?_,h⟩
   simp only [gNo] at hg
   split at hg
   ·rename_i b hb
    simp at hg; subst hg; exact .inl hb
   ·rename_i hb; exact .inr hb
   ·cases hg
theorem rs_build {zero cs:List AV} {ps:List (Nat×Nat×Arg)} (hg:gOK F g=true) (hf:fillA F zero ps=some cs) (h:RS P N ml ((d,.agg cs)::F) H (fun fps=>K (([],[])::fps))):RS P N (⟨some d,.build zero ps,g,pre⟩::ml) F H K :=
 XL hg (by simp only [mev,hf]; exact h)
theorem XN {e z len:Nat} {zero l:List AV} {ps:List (Nat×Arg)} {fl:Bool} (hg:gOK F g=true) (hf:fillS F z (reps len zero) ps=some l) (hz:zero.length=z) (hd:get H d=none) (he:Je z len l=els) (hfl:Qi l=fl)
  (h:RS P N ml ((d,.sl d 0 len)::F) ((d,.cells e z els fl)::H) (fun fps=>K (([],[d])::fps))):RS P N (⟨some d,.bslice e z zero len ps,g,pre⟩::ml) F H K :=
 XL hg (by simp only [mev,hf]; subst he hfl; exact ⟨hz,hd,h⟩)
theorem rs_ld_p {n i j o e z:Nat} {x:Arg} {fl:Bool} {el:List AV} {v:AV} (hg:gOK F g=true) (hx:Qe F x=some (.ptr i j o)) (hi:get H i=some (.cells e z els fl)) (hj:els[j]?=some el) (hv:el[o]?=some v)
  (h:RS P N ml ((d,v)::F) H (fun fps=>K (([i],[])::fps))):RS P N (⟨some d,.ld false n x,g,pre⟩::ml) F H K :=
 XL hg (by simp only [mev,hx,hi,hj,hv,Bool.false_eq_true,if_false]; exact h)
theorem Q2 {n i j o e z:Nat} {x:Arg} {fl:Bool} {el cs:List AV} (hg:gOK F g=true) (hx:Qe F x=some (.ptr i j o)) (hi:get H i=some (.cells e z els fl)) (hj:els[j]?=some el) (hn:o+n<=el.length) (hc:(el.drop o).take n=cs)
  (h:RS P N ml ((d,.agg cs)::F) H (fun fps=>K (([i],[])::fps))):RS P N (⟨some d,.ld true n x,g,pre⟩::ml) F H K :=
 XL hg (by simp only [mev,hx,hi,hj,if_true]; subst hc; exact ⟨hn,h⟩)
theorem Ja {n:Nat} {x:Arg} {cs:List AV} (hg:gOK F g=true) (hx:Qe F x=some (.rp cs)) (hn:n<=cs.length) (hc:cs.take n=cs') (h:RS P N ml ((d,.agg cs')::F) H (fun fps=>K (([],[])::fps))) :
  RS P N (⟨some d,.ld true n x,g,pre⟩::ml) F H K :=
 XL hg (by simp only [mev,hx,if_true]; subst hc; exact ⟨hn,h⟩)
theorem rs_st {n i j o e z:Nat} {x y:Arg} {fl:Bool} {el cs:List AV} {u:AV} (hg:gOK F g=true) (hx:Qe F x=some (.ptr i j o)) (hy:Qe F y=some u) (hi:get H i=some (.cells e z els fl)) (hc:X4 u=some cs)
  (hj:els[j]?=some el) (hn:cs.length=n) (ho:o+n<=el.length) (he:els.set j (Jj el o cs)=els') (hfl:(fl&&Qi cs)=fl')
  (h:RS P N ml F ((i,.cells e z els' fl')::H) (fun fps=>K (([],[i])::fps))):RS P N (⟨none,.st n x y,g,pre⟩::ml) F H K :=
 XL hg (by simp only [mev,hx,hy,hi,hc,hj]; subst he hfl; exact ⟨hn,ho,h⟩)
theorem rs_nilc_p {x:Arg} {i j o:Nat} (hg:gOK F g=true) (hx:Qe F x=some (.ptr i j o)) (h:RS P N ml ((d,.ptr i j o)::F) H (fun fps=>K (([],[])::fps))):RS P N (⟨some d,.nilc x,g,pre⟩::ml) F H K :=
 XL hg (by simp only [mev,hx]; exact h)
theorem JM {x y:Arg} {k:IntKind} {a b:Int} (hg:gOK F g=true) (hx:Qe F x=some (.int k a)) (hy:Qe F y=some (.int k' b))
  (h:binV op k k' a b fun v=>RS P N ml ((d,v)::F) H (fun fps=>K (([],[])::fps))):RS P N (⟨some d,.bin op x y,g,pre⟩::ml) F H K :=
 XL hg (by simp only [mev,hx,hy]; exact h)
theorem wrap64_eq {n:Int} (h : -9223372036854775808<=n/\n<=9223372036854775807):IntKind.i64.wrap n=n:=by rw [IntKind.wrap_i64]; omega
theorem Qm {x y:Arg} {a b:Int} (hg:gOK F g=true) (hx:Qe F x=some (.int .i64 a)) (hy:Qe F y=some (.int .i64 b)) (hr : -9223372036854775808<=a+b/\a+b<=9223372036854775807)
  (h:RS P N ml ((d,.int .i64 (a+b))::F) H (fun fps=>K (([],[])::fps))):RS P N (⟨some d,.bin .add x y,g,pre⟩::ml) F H K :=
 JM hg hx hy ⟨rfl,by rw [wrap64_eq hr]; exact h⟩
theorem JK {x y:Arg} {a b:Int} (hg:gOK F g=true) (hx:Qe F x=some (.int .i64 a)) (hy:Qe F y=some (.int .i64 b)) (hr : -9223372036854775808<=a-b/\a-b<=9223372036854775807)
  (h:RS P N ml ((d,.int .i64 (a-b))::F) H (fun fps=>K (([],[])::fps))):RS P N (⟨some d,.bin .sub x y,g,pre⟩::ml) F H K :=
 JM hg hx hy ⟨rfl,by rw [wrap64_eq hr]; exact h⟩
def cmpV (op:BinOp) (a b:Int):Option Prop :=
 match op with
 | .eql=>some (a=b)
 | .neq=>some (a≠b)
 | .lss=>some (a<b)
 | .leq=>some (a<=b)
 | .gtr=>some (b<a)
 | .geq=>some (b<=a)
 | _=>none
theorem QZ {x y:Arg} {k:IntKind} {a b:Int} {p:Prop} (hg:gOK F g=true) (hx:Qe F x=some (.int k a)) (hy:Qe F y=some (.int k b)) (hop:cmpV op a b=some p) (hp:p)
  (h:RS P N ml ((d,.bool true)::F) H (fun fps=>K (([],[])::fps))):RS P N (⟨some d,.bin op x y,g,pre⟩::ml) F H K :=
 JM hg hx hy (by
  cases op <;> simp only [cmpV,Option.some.injEq] at hop <;> first | cases hop | skip
  all_goals
   first
    | exact ⟨rfl,by rw [show (a == b)=true by simpa using hp]; exact h⟩
    | exact ⟨rfl,by rw [show (a != b)=true by simpa using hp]; exact h⟩
    | exact ⟨rfl,by rw [show decide (a<b)=true by simpa using hp]; exact h⟩
    | exact ⟨rfl,by rw [show decide (a<=b)=true by simpa using hp]; exact h⟩
    | exact ⟨rfl,by rw [show decide (a>b)=true by simpa using hp]; exact h⟩
    | exact ⟨rfl,by rw [show decide (a ≥ b)=true by simpa using hp]; exact h⟩)
theorem Xo {x y:Arg} {k:IntKind} {a b:Int} {p:Prop} (hg:gOK F g=true) (hx:Qe F x=some (.int k a)) (hy:Qe F y=some (.int k b)) (hop:cmpV op a b=some p) (hp:¬ p)
  (h:RS P N ml ((d,.bool false)::F) H (fun fps=>K (([],[])::fps))):RS P N (⟨some d,.bin op x y,g,pre⟩::ml) F H K :=
 JM hg hx hy (by
  cases op <;> simp only [cmpV,Option.some.injEq] at hop <;> first | cases hop | skip
  all_goals
   first
    | exact ⟨rfl,by rw [show (a == b)=false by simpa using hp]; exact h⟩
    | exact ⟨rfl,by rw [show (a != b)=false by simpa using hp]; exact h⟩
    | exact ⟨rfl,by rw [show decide (a<b)=false by simpa using hp]; exact h⟩
    | exact ⟨rfl,by rw [show decide (a<=b)=false by simpa using hp]; exact h⟩
    | exact ⟨rfl,by rw [show decide (a>b)=false by simpa using hp]; exact h⟩
    | exact ⟨rfl,by rw [show decide (a ≥ b)=false by simpa using hp]; exact h⟩)
theorem rs_neg {x:Arg} {n:Int} (hg:gOK F g=true) (hx:Qe F x=some (.int .i64 n)) (hr : -9223372036854775807<=n/\n<=9223372036854775807) (h:RS P N ml ((d,.int .i64 (-n))::F) H (fun fps=>K (([],[])::fps))):RS P N (⟨some d,.un .neg x,g,pre⟩::ml) F H K :=
 XL hg (by simp only [mev,hx]; rw [wrap64_eq (by omega),Int.zero_sub]; exact h)
theorem rs_slc_r {z z':Nat} {x:Arg} {lo hi:Option Arg} {l q:Int} (hg:gOK F g=true) (hx:Qe F x=some (.rs z' els)) (hl:QY F 0 lo=some l) (hh:QY F els.length hi=some q) (hz:z'=z) (h0:0<=l) (h1:l<=q) (h2:q<=els.length)
  (he:(els.drop l.toNat).take (q.toNat-l.toNat)=els') (h:RS P N ml ((d,.rs z els')::F) H (fun fps=>K (([],[])::fps))):RS P N (⟨some d,.slc z x lo hi,g,pre⟩::ml) F H K :=
 XL hg (by simp only [mev,hx,hl,hh]; subst he; exact ⟨.inl hz,h0,h1,h2,h⟩)
theorem rs_ix_r {z:Nat} {x i:Arg} {k:IntKind} {t:Int} {el:List AV} (hg:gOK F g=true) (hx:Qe F x=some (.rs z els)) (hi:Qe F i=some (.int k t)) (h0:0<=t) (h1:t<els.length) (he:els[t.toNat]?=some el)
  (h:RS P N ml ((d,.rp el)::F) H (fun fps=>K (([],[])::fps))):RS P N (⟨some d,.ixsl z x i,g,pre⟩::ml) F H K :=
 XL hg (by simp only [mev,hx,hi,he]; exact ⟨h0,h1,trivial,h⟩)
theorem rs_ix_s {z a j n e:Nat} {x i:Arg} {k:IntKind} {t:Int} {fl:Bool} (hg:gOK F g=true) (hx:Qe F x=some (.sl a j n)) (hi:Qe F i=some (.int k t)) (ha:get H a=some (.cells e z els fl)) (h0:0<=t) (h1:t<n)
  (h:RS P N ml ((d,.ptr a (j+t.toNat) 0)::F) H (fun fps=>K (([a],[])::fps))):RS P N (⟨some d,.ixsl z x i,g,pre⟩::ml) F H K :=
 XL hg (by simp only [mev,hx,hi,ha]; exact ⟨h0,h1,trivial,h⟩)
theorem Qx {len z a j o:Nat} {x i:Arg} {k:IntKind} {t:Int} (hg:gOK F g=true) (hx:Qe F x=some (.ptr a j o)) (hi:Qe F i=some (.int k t)) (h0:0<=t) (h1:t<len)
  (h:RS P N ml ((d,.ptr a j (o+t.toNat*z))::F) H (fun fps=>K (([],[])::fps))):RS P N (⟨some d,.ixarr len z x i,g,pre⟩::ml) F H K :=
 XL hg (by simp only [mev,hx,hi]; exact ⟨h0,h1,h⟩)
theorem rs_ixvala {len z:Nat} {x i:Arg} {cs:List AV} {k:IntKind} {t:Int} (hg:gOK F g=true) (hx:Qe F x=some (.agg cs)) (hi:Qe F i=some (.int k t)) (h0:0<=t) (h1:t<len) (hn:t.toNat*z+z<=cs.length) (hc:(cs.drop (t.toNat*z)).take z=cs')
  (h:RS P N ml ((d,.agg cs')::F) H (fun fps=>K (([],[])::fps))):RS P N (⟨some d,.ixval len z true x i,g,pre⟩::ml) F H K :=
 XL hg (by simp only [mev,hx,hi,if_true]; subst hc; exact ⟨h0,h1,hn,h⟩)
theorem JL {z:Nat} {x:Arg} {n:Nat} (hg:gOK F g=true) (hx:Qe F x=some (.rs z els)) (hn:els.length=n) (h:RS P N ml ((d,.int .i64 n)::F) H (fun fps=>K (([],[])::fps))):RS P N (⟨some d,.len x,g,pre⟩::ml) F H K :=
 XL hg (by simp only [mev,hx]; subst hn; exact h)
theorem rs_len_s {i j n:Nat} {x:Arg} (hg:gOK F g=true) (hx:Qe F x=some (.sl i j n)) (h:RS P N ml ((d,.int .i64 n)::F) H (fun fps=>K (([],[])::fps))):RS P N (⟨some d,.len x,g,pre⟩::ml) F H K :=
 XL hg (by simp only [mev,hx]; exact h)
theorem rs_app {e z by_ i n m:Nat} {zero:List AV} {s x:Arg} {v:AV} {news:List (List AV)} {fl:Bool} (hg:gOK F g=true) (hs:Qe F s=some (.sl i 0 n)) (hx:Qe F x=some v) (hi:get H i=some (.cells e z els fl)) (hsrc:JH H z v=some (rd,news))
  (hz:zero.length=z) (hd:get H d=none) (hl:els.length=n) (hird:i ∉ rd) (hn:∀ el∈news,el.length=z) (hm:news.length=m) (hb:(n+m)*by_<=140737488355328) (h63:n+m<=9223372036854775807) (hfl:(fl&&X2 news)=fl')
  (h:RS P N ml ((d,.sl d 0 (n+m))::F) ((d,.cells e z (els++news) fl')::(i,.dead)::H) (fun fps=>K ((rd,[i,d])::fps))):RS P N (⟨some d,.app e z by_ zero s x,g,pre⟩::ml) F H K :=
 XL hg (by subst hm hfl; simp only [mev,hs,hx,hi,hsrc]; exact ⟨hz,hd,trivial,trivial,hn,hb,h63,.inl ⟨hl,hird,h⟩⟩)
theorem rs_mn {x y:Arg} {k:IntKind} {a b c:Int} (hg:gOK F g=true) (hx:Qe F x=some (.int k a)) (hy:Qe F y=some (.int k' b)) (hc:min a b=c) (h:RS P N ml ((d,.int k c)::F) H (fun fps=>K (([],[])::fps))):RS P N (⟨some d,.mn x y,g,pre⟩::ml) F H K :=
 XL hg (by simp only [mev,hx,hy]; subst hc; exact h)
theorem rs_mx {x y:Arg} {k:IntKind} {a b c:Int} (hg:gOK F g=true) (hx:Qe F x=some (.int k a)) (hy:Qe F y=some (.int k' b)) (hc:max a b=c) (h:RS P N ml ((d,.int k c)::F) H (fun fps=>K (([],[])::fps))):RS P N (⟨some d,.mx x y,g,pre⟩::ml) F H K :=
 XL hg (by simp only [mev,hx,hy]; subst hc; exact h)
def HV (H Hs:Hp) (rd:List Nat) (al:Bool) (v v':AV):Prop :=
 ∀ (w:World) (S:Nat->Prop) (ρ:Rho) (c:Value),HRi (fun i=>i∈rd\/get Hs i≠none) w S ρ H->VR w S ρ v c →
  VR w (fun b=>S b\/(al=false/\Jb ρ H (fun i=>i∈rd) b)) (fun i=>if get Hs i≠none then ρ i else none) v' c
theorem Ql {v:AV} (hs:Qr (Qa Hs) v=true):HV H Hs rd al v v:=fun w S ρ c _ h =>
 (h.scope hs (fun i hi=>if_pos (Qp.1 hi))).mono (fun b hb=>.inl hb) (fun _ _ _ h=>h) (fun _ _ h=>h)
theorem hv_sl {i e z j n:Nat} (hi:i∈rd) (hg:get H i=some (.cells e z els true)) (hb:j+n<=els.length) (he:(els.drop j).take n=els'):HV H Hs rd false (.sl i j n) (.rs z els'):=fun w S ρ c hh hv=>by
 subst he
 have hlen:((els.drop j).take n).length=n:=by simp; omega
 rcases hv.sl_inv with ⟨b,z0,cap,cap',hρ,hjc,hnc,rfl⟩ | ⟨z0,hρ,rfl,rfl,rfl⟩
 ·obtain ⟨bk,z1,c1,q1,hz,q2⟩:=hh.ob i _ (.inl hi) hg
  rw [hρ] at q1
  injection q1 with q1
  obtain ⟨rfl,rfl,rfl⟩:some b=bk/\z0=z1/\cap=c1:=by simpa using q1
  subst hz
  obtain ⟨hs,hm,C,hC,e1,e2,e3,e4⟩:=q2
  have hcell:∀ (q:Nat) (el:List AV) (k:Nat) (u:AV),((els.drop j).take n)[q]?=some el->el[k]?=some u->els[j+q]?=some el:=fun q el k u hq _=>by
   rw [List.getElem?_take] at hq
   split at hq
   ·rw [List.getElem?_drop] at hq; exact hq
   ·cases hq
  have hq:=CR.rs (w:=w) (S:=fun b=>S b\/(false=false/\Jb ρ H (fun i=>i∈rd) b)) z ((els.drop j).take n) b (j*z) cap' (fun q k=>C.getD ((j+q)*z+k) undef) (.inr ⟨rfl,i,_,z,cap,hi,hg,rfl,hρ⟩) (by omega)
   (fun q el k u hq hk=>by
    have h1:=hcell q el k u hq hk
    obtain ⟨g1,g2⟩:=e4 (j+q) el k u h1 hk
    have hkz:k<z:=Nat.lt_of_lt_of_le (List.getElem?_eq_some_iff.1 hk).1 (e3 _ el h1)
    have hjl:j+q<els.length:=(List.getElem?_eq_some_iff.1 h1).1
    have hlt:(j+q)*z+k<C.size:=by
     rw [e1]
     calc (j+q)*z+k<(j+q)*z+z:=by omega
      _=(j+q+1)*z:=by rw [Nat.add_mul (j+q),Nat.one_mul]
      _<=cap*z:=Nat.mul_le_mul_right _ (by omega)
    refine ⟨?_,g1⟩
    rw [← Nat.add_mul,cell_of_row w b _ C e (0,0) hC]
    exact getD_some hlt)
   (fun q el k u hq hk=>by
    obtain ⟨_,g2⟩:=e4 (j+q) el k u (hcell q el k u hq hk) hk
    rw [if_pos rfl] at g2
    exact g2.mono (fun b hb=>.inl hb) (fun _ _ _ h=>h))
  rw [hlen] at hq
  exact .cl hq
 ·simp; exact .cl (.rs0 z none 0)
inductive HVs (H Hs:Hp) (rd:List Nat) (al:Bool):List AV->List AV->Prop where
 | nil:HVs H Hs rd al [] []
 | cons {v r:AV} {vs rs:List AV} (h:HV H Hs rd al v r) (hs:HVs H Hs rd al vs rs):HVs H Hs rd al (v::vs) (r::rs)
theorem HVs.at_ {vs rs:List AV} (h:HVs H Hs rd al vs rs):vs.length=rs.length/\∀ (j:Nat) (r:AV),rs[j]?=some r->∃ v,vs[j]?=some v/\HV H Hs rd al v r:=by
 induction h with
 | nil=>exact ⟨rfl,fun j r h=>by simp at h⟩
 | cons h _ ih =>
  refine ⟨by simp [ih.1],fun j r hj=>?_⟩
  cases j with
  | zero=>simp at hj; subst hj; exact ⟨_,rfl,h⟩
  | succ j=>simpa using ih.2 j r (by simpa using hj)
theorem HVs.hands {vs rs:List AV} (h:HVs H Hs rd al vs rs):Hands H Hs rd al vs rs:=fun w S ρ C hh hv=>by
 obtain ⟨e1,e2⟩:=h.at_
 refine ⟨by rw [hv.1,e1],fun j r hj=>?_⟩
 obtain ⟨v,g1,g2⟩:=e2 j r hj
 exact g2 w S ρ _ hh (hv.2 j v g1)
def JI (Hs:Hp):Bool:=Hs.all fun x=>Q4 (Qa Hs) x.2
theorem scopedHs_spec (h:JI Hs=true):∀ i ob,get Hs i=some ob->Q4 (Qa Hs) ob=true:=by
 have key:∀ (A:Hp) (i:Nat) (ob:Ob),get A i=some ob->(i,ob)∈A:=by
  intro A
  induction A with
  | nil=>intro i ob h; simp [get] at h
  | cons x A ih =>
   obtain ⟨k,v⟩:=x
   intro i ob h
   simp only [get] at h
   split at h
   ·rename_i e; subst e; injection h with h; subst h; simp
   ·exact List.mem_cons_of_mem _ (ih i ob h)
 intro i ob hi
 exact List.all_eq_true.1 h (i,ob) (key Hs i ob hi)
theorem rs_call {f:Nat} {vs:List AV} (hg:gOK F g=true) (hv:XT F as=some vs) (hfc:FC P f vs' [] r H' false) (hh:HVs H [] rd false vs vs') (hnew:∀ i,i∈Qa H'->get H i=none)
  (h:RS P N ml ((d,r)::F) (H'++H) (fun fps=>K ((rd,Qa H')::fps))):RS P N (⟨some d,.call f as,g,pre⟩::ml) F H K :=
 rs_cons fun ops o hc=>⟨r,rd,Qa H',H'++H,JC hc (gOK_spec hg) (enters_call hc rfl hv) hfc hh.hands (fun _=>rfl) (fun i ob h=>by simp [get] at h) (fun i ob h=>by simp [get] at h) (fun i _=>rfl)
  (fun i hi _=>hnew i (Qp.2 hi)) (fun i h=>absurd rfl h),h⟩
theorem rs_callm {f:Nat} {vs:List AV} (hg:gOK F g=true) (hv:XT F as=some vs) (hfc:FC P f vs' Hs r H' true) (hh:HVs H Hs [] true vs vs') (hsub:∀ i ob,get Hs i=some ob->get H i=some ob) (hsc:JI Hs=true)
  (hnew:∀ i,get H' i≠none->get Hs i=none->get H i=none) (hdom:∀ i,get Hs i≠none->get H' i≠none)
  (h:RS P N ml ((d,r)::F) (H'++H) (fun fps=>K (([],Qa H')::fps))):RS P N (⟨some d,.call f as,g,pre⟩::ml) F H K :=
 rs_cons fun ops o hc=>⟨r,[],Qa H',H'++H,JC hc (gOK_spec hg) (enters_call hc rfl hv) hfc hh.hands (fun h=>(by cases h)) hsub (scopedHs_spec hsc) (fun i h=>(by cases h)) hnew hdom,h⟩
theorem rs_callv {fa:Arg} {vs cs:List AV} {f:FuncId} (hg:gOK F g=true) (hf:Qe F fa=some (.fn (.func f) cs)) (hent:Xj P f=true) (hv:XT F as=some vs) (hfc:FC P f vs' Hs r H' true)
  (hh:HVs H Hs [] true (vs++cs) vs') (hsub:∀ i ob,get Hs i=some ob->get H i=some ob) (hsc:JI Hs=true) (hnew:∀ i,get H' i≠none->get Hs i=none->get H i=none) (hdom:∀ i,get Hs i≠none->get H' i≠none)
  (h:RS P N ml (putF F dst r) (H'++H) (fun fps=>K (([],Qa H')::fps))):RS P N (⟨dst,.callv fa as,g,pre⟩::ml) F H K :=
 rs_cons fun ops o hc=>⟨r,[],Qa H',H'++H,JC hc (gOK_spec hg) (enters_callv hc rfl hf hent hv) hfc hh.hands (fun h=>(by cases h)) hsub (scopedHs_spec hsc) (fun i h=>(by cases h)) hnew hdom,h⟩
end
end Go.Proofs.YthmbjgnjfjjibaaGreatDoor
