/-
  Parts of the proof: Ls L12 L13 L14 L15 L16 L17 L18 L19 L20 L21 L22 L23 L24 L26.
-/
import Derived.Test.YthfhaoogcpfboaaGreatK0
import Derived.Laws.IdiomStrings
import Derived.Laws.BytesArg
import Derived.Laws.Concat
import Derived.Laws.Strings3
import Derived.RangeFuncNested
import Derived.RangeFuncCalls
import Derived.RangeFuncLeaves
import Derived.TacticsIn
import Derived.OrdersIn
set_option linter.unusedVariables false
set_option linter.unusedSimpArgs false
namespace Go.Proofs.YthfhaoogcpfboaaGreat
open Go.RowKit
section
variable {P:Program} {o:Oper} {F:List (Nat×AV)} {H:List (Nat×Ob)}
theorem VR.str_inv' {w:World} {S:Nat->Prop} {ρ:Rho} {c:Value} {s:ByteArray} (h:VR w S ρ (.str s) c):c = .string s:=by
 cases h with
 | cl h=>cases h; rfl
theorem isU8T_spec {t:TypeId} (h:isU8T P t=true):P.underlying t=some (.int .u8):=by
 unfold isU8T at h
 split at h
 ·rename_i h1; exact h1
 ·cases h
theorem opt_slen {t:TypeId} {x:Operand} {r:Arg} (ht:P.underlying t=some .string) (hx:Q1 x=some r) (ho:o.op = .call { callee:=.builtin .len,args := #[x],argTypes := #[t] }) {s:ByteArray} (hv:Qj F r=some (.str s)):OpT P o r.slots F H [] [] (.int .i64 s.size) H :=
 OpT.pure fun S ρ a w hF _=>by
  have e:=(Qn hx hF (fun _ h=>h) hv).str_inv'
  exact ⟨.int .i64 s.size,by simp [execOp,ho,e,resolve,invoke,builtin,Builtin.len_,run_underlying ht,goInt],.cl (.int _ _)⟩
theorem opt_scat {t yt:TypeId} {x y:Operand} {rx ry:Arg} (hx:Q1 x=some rx) (hy:Q1 y=some ry) (ho:o.op = .binOp .add t x y yt) {s u:ByteArray} (h1:Qj F rx=some (.str s)) (h2:Qj F ry=some (.str u)) (hs:s.size+u.size<=9223372036854775807) :
  OpT P o (rx.slots++ry.slots) F H [] [] (.str (s++u)) H :=
 OpT.pure fun S ρ a w hF _=>by
  have e1:=(Qn hx hF (fun _ h=>by simp [h]) h1).str_inv'
  have e2:=(Qn hy hF (fun _ h=>by simp [h]) h2).str_inv'
  have hq:=run_string_add_sum (P:=P) w s u hs
  exact ⟨.string (s++u),by simp [execOp,ho,e1,e2,eqGuard_at_string,binOp_string_add,hq],.cl (.str _)⟩
theorem opt_seq {neg:Bool} {t yt:TypeId} {x y:Operand} {rx ry:Arg} (hx:Q1 x=some rx) (hy:Q1 y=some ry) (ho:o.op = .binOp (if neg=true then .neq else .eql) t x y yt) {s u:ByteArray} (h1:Qj F rx=some (.str s)) (h2:Qj F ry=some (.str u)) :
  OpT P o (rx.slots++ry.slots) F H [] [] (.bool (neg != (s.toList == u.toList))) H :=
 OpT.pure fun S ρ a w hF _=>by
  have e1:=(Qn hx hF (fun _ h=>by simp [h]) h1).str_inv'
  have e2:=(Qn hy hF (fun _ h=>by simp [h]) h2).str_inv'
  refine ⟨.bool (neg != (s.toList == u.toList)),?_,.cl (.bool _)⟩
  cases neg
  ·simp [execOp,ho,e1,e2,eqGuard_at_string,binOp_string_eql]
  ·simp [execOp,ho,e1,e2,eqGuard_at_string,binOp_string_neq]
theorem opt_stake {t:TypeId} {x i:Operand} {rx ri:Arg} (ht:P.underlying t=some .string) (hx:Q1 x=some rx) (hi:Q1 i=some ri) (ho:o.op = .slice t x none (some i) none) {s:ByteArray} {k:IntKind} {n:Int} (h1:Qj F rx=some (.str s)) (h2:Qj F ri=some (.int k n)) (h0:0<=n) (hn:n<=s.size) :
  OpT P o (rx.slots++ri.slots) F H [] [] (.str (s.extract 0 n.toNat)) H :=
 OpT.pure fun S ρ a w hF _=>by
  have e1:=(Qn hx hF (fun _ h=>by simp [h]) h1).str_inv'
  have e2:=(Qn hi hF (fun _ h=>by simp [h]) h2).int_inv
  have hq:=run_slice_string_to_if (P:=P) w t s k n ht
  rw [if_pos ⟨h0,hn⟩] at hq
  exact ⟨_,by simp [execOp,ho,e1,e2,run_sliceAt_string w t _ _ _ _ ht,hq],.cl (.str _)⟩
theorem opt_sidx {t:TypeId} {x i:Operand} {rx ri:Arg} (ht:P.underlying t=some .string) (hx:Q1 x=some rx) (hi:Q1 i=some ri) (ho:o.op = .index t x i) {s:ByteArray} {k:IntKind} {n:Int} {b:UInt8} (h1:Qj F rx=some (.str s)) (h2:Qj F ri=some (.int k n)) (h0:0<=n) (hb:s.toList[n.toNat]?=some b) :
  OpT P o (rx.slots++ri.slots) F H [] [] (.int .u8 b.toNat) H :=
 OpT.pure fun S ρ a w hF _=>by
  have e1:=(Qn hx hF (fun _ h=>by simp [h]) h1).str_inv'
  have e2:=(Qn hi hF (fun _ h=>by simp [h]) h2).int_inv
  have hq:=run_index_string (P:=P) w t s k n ht
  have hl:n.toNat<s.size:=by
   have:=(List.getElem?_eq_some_iff.1 hb).1
   rw [ByteArray.toList_eq] at this
   simpa using this
  have hbe:s[n.toNat]'hl=b:=by
   have h3:=(List.getElem?_eq_some_iff.1 hb).2
   simp only [ByteArray.toList_eq] at h3
   simpa [ByteArray.getElem_eq_getElem_data] using h3
  rw [dif_pos (show 0<=n/\n<s.size by omega),hbe] at hq
  exact ⟨_,by simp [execOp,ho,e1,e2,hq],.cl (.int _ _)⟩
theorem rowS_at {s:ByteArray} {j:Nat} {el:List AV} (h:(rowS s)[j]?=some el):∃ b,s.data.toList[j]?=some b/\el=[.int .u8 b.toNat]:=by
 unfold rowS at h
 rw [ByteArray.toList_eq,List.getElem?_map] at h
 cases hb:s.data.toList[j]? with
 | none=>rw [hb] at h; cases h
 | some b=>rw [hb] at h; injection h with h; exact ⟨b,rfl,h.symm⟩
theorem rowS_len (s:ByteArray):(rowS s).length=s.size:=by unfold rowS; rw [ByteArray.toList_eq]; simp
theorem opt_s2b {src dst e:TypeId} {x:Operand} {r:Arg} (hs:P.underlying src=some .string) (hd:P.underlying dst=some (.slice e)) (he:P.underlying e=some (.int .u8)) (hx:Q1 x=some r) (ho:o.op = .convert src dst x) {s:ByteArray} (hv:Qj F r=some (.str s)) :
  OpT P o r.slots F H [] [] (.rs 1 (rowS s)) H:=by
 intro S ρ a w Q K hF hS hH hnew hK
 have e1:=(Qn hx hF (fun _ h=>h) hv).str_inv'
 have hrun:=run_bytes_of_string (P:=P) w src dst e s hs hd he
 have hcap:=grownCap_ge w s.size 0 e
 generalize grownCap w s.size 0 e=cap at hrun hcap
 generalize hC:bytesRow s cap=C at hrun
 generalize hw:w.drew.alloc (.cells C e (C.size,C.size+1))=w' at hrun
 have hkeep:Keep w w' (JI ρ H fun i=>i∈([]:List Nat)\/i∈([]:List Nat)):=by
  subst hw
  exact ⟨rfl,rfl,rfl,by simp,fun k hk _=>Below.heap_alloc w.drew _ k hk⟩
 have hblk:w'.heap[w.heap.size]?=some (.cells C e (C.size,C.size+1)):=by
  subst hw
  exact heap_alloc_new w.drew _
 have hsz:w'.heap.size=w.heap.size+1:=by subst hw; simp
 refine .inl ?_
 unfold Oper.wp
 rw [show (execOp a.eval o).run P w = .ok (.value (.slice (some ⟨w.heap.size,0,none⟩) s.size cap)) w' by simp [execOp,ho,e1,hrun]]
 have hcell:∀ (a:Addr) (c:Value),S a.block->w.cell? a=some c->w'.cell? a=some c:=fun a c hs hc =>
  hkeep.cell (fun ⟨i,ob,z,cap,hi,_⟩=>by simp at hi) hc
 refine hK _ w' (fun b=>S b\/b=w.heap.size) ρ (.cl ?_) ⟨fun i ob hi=>by simp at hi,fun i j oi oj b z1 z2 c1 c2 hi=>by simp at hi⟩ ⟨hkeep,fun b hb=>.inl hb,fun b hb=>?_,fun b hb=>?_,fun b hb=>?_,fun i _=>rfl⟩
 ·rw [← rowS_len s]
  have hat:∀ (j:Nat) (b:UInt8),s.data.toList[j]?=some b->w'.cell? ⟨w.heap.size,0+j*1+0,none⟩=some (.int .u8 b.toNat):=fun j b hj=>by
   have hjl:j<s.data.size:=by simpa using (List.getElem?_eq_some_iff.1 hj).1
   have hCj:C[j]?=some (.int .u8 b.toNat):=by
    rw [← hC]
    unfold bytesRow
    rw [Array.getElem?_append_left (by simpa using hjl),Array.getElem?_map]
    have:s.data[j]?=some b:=by simpa using hj
    rw [this]; rfl
   simp only [Nat.zero_add,Nat.mul_one,Nat.add_zero]
   rw [cell_of_row w' w.heap.size j C e _ hblk]; exact hCj
  refine .rs 1 (rowS s) w.heap.size 0 cap (fun j _=>.int .u8 ((s.data.toList.getD j 0).toNat)) (.inr rfl) (by rw [rowS_len]; exact hcap) (fun j el k v hj hk=>?_) (fun j el k v hj hk=>?_)
  ·obtain ⟨b,hb,rfl⟩:=rowS_at hj
   have hk0:k=0:=by
    have:=(List.getElem?_eq_some_iff.1 hk).1
    simpa using this
   subst hk0
   rw [List.getD_eq_getElem?_getD,hb]
   exact ⟨hat j b hb,rfl⟩
  ·obtain ⟨b,hb,rfl⟩:=rowS_at hj
   have hk0:k=0:=by
    have:=(List.getElem?_eq_some_iff.1 hk).1
    simpa using this
   subst hk0
   rw [List.getD_eq_getElem?_getD,hb]
   simp at hk
   subst hk
   exact .int _ _
 ·rcases hb with hb | rfl
  ·exact .inl hb
  ·exact .inr (.inr (Nat.le_refl _))
 ·rcases hb with hb | rfl
  ·have:=hS b hb; omega
  ·omega
 ·obtain ⟨i,ob,z,c,hi,_⟩:=hb
  simp at hi
theorem byteE_spec:∀ {els:List (List AV)} {l:List Int},byteE els=some l->els.length=l.length/\∀ (j:Nat) (n:Int),l[j]?=some n->els[j]?=some [.int .u8 n]
 | [],l,h=>by simp [byteE] at h; subst h; exact ⟨rfl,fun j n h=>by simp at h⟩
 | el::els,l,h=>by
  unfold byteE at h
  split at h
  ·rename_i heq; cases heq
  ·rename_i n r he
   injection he with h1 h2; subst h1 h2
   cases hl:byteE els with
   | none=>rw [hl] at h; cases h
   | some l' =>
    rw [hl] at h
    injection h with h; subst h
    obtain ⟨g1,g2⟩:=byteE_spec hl
    refine ⟨by simp [g1],fun j m hj=>?_⟩
    cases j with
    | zero=>simp at hj; subst hj; rfl
    | succ j=>simpa using g2 j m (by simpa using hj)
  ·cases h
theorem bytesL_spec:∀ {els:List AV} {l:List Int},bytesL els=some l->els.length=l.length/\∀ (j:Nat) (n:Int),l[j]?=some n->els[j]?=some (.int .u8 n)
 | [],l,h=>by simp [bytesL] at h; subst h; exact ⟨rfl,fun j n h=>by simp at h⟩
 | v::els,l,h=>by
  unfold bytesL at h
  split at h
  ·rename_i heq; cases heq
  ·rename_i n r he
   injection he with h1 h2; subst h1 h2
   cases hl:bytesL els with
   | none=>rw [hl] at h; cases h
   | some l' =>
    rw [hl] at h
    injection h with h; subst h
    obtain ⟨g1,g2⟩:=bytesL_spec hl
    refine ⟨by simp [g1],fun j m hj=>?_⟩
    cases j with
    | zero=>simp at hj; subst hj; rfl
    | succ j=>simpa using g2 j m (by simpa using hj)
  ·cases h
theorem bytesV_ok {w:World} {S:Nat->Prop} {ρ:Rho} {v:AV} {c:Value} {rd:List Nat} {l:List Int} {I:Nat->Prop} (hb:bytesV H v=some (rd,l)) (hv:VR w S ρ v c) (hH:HRi I w S ρ H) (hI:∀ i,i∈rd->I i) :
  (l=[]/\∃ A cap,c = .slice A 0 cap)\/∃ b off cap,c = .slice (some ⟨b,off,none⟩) l.length cap/\∀ i,i<l.length->w.cell? ⟨b,off+i,none⟩=some (.int .u8 (l.getD i 0)):=by
 have getD_:∀ {i:Nat},i<l.length->l[i]?=some (l.getD i 0):=fun {i} hi=>by rw [List.getD_eq_getElem?_getD,List.getElem?_eq_getElem hi]; rfl
 unfold bytesV at hb
 split at hb
 ·injection hb with hb
  injection hb with h1 h2
  subst h1 h2
  cases hv with
  | cl h=>cases h; exact .inl ⟨rfl,_,_,rfl⟩
 ·rename_i els
  cases hl:byteE els with
  | none=>rw [hl] at hb; cases hb
  | some l' =>
   rw [hl] at hb
   injection hb with hb
   injection hb with h1 h2
   subst h1 h2
   obtain ⟨g1,g2⟩:=byteE_spec hl
   rcases hv.rs_inv with ⟨rfl,a,cap,rfl⟩ | ⟨b,off,cap,cf,rfl,_,_,q1,q2⟩
   ·exact .inl ⟨List.eq_nil_of_length_eq_zero (by rw [← g1]; rfl),_,_,rfl⟩
   ·refine .inr ⟨b,off,cap,by rw [g1],fun i hi=>?_⟩
    have:=q1 i _ 0 _ (g2 i _ (getD_ hi)) rfl
    have e:=q2 i _ 0 _ (g2 i _ (getD_ hi)) rfl
    generalize cf i 0=cc at this e
    cases e
    rw [Nat.mul_one,Nat.add_zero] at this
    exact this.1
 ·rename_i i j n
  split at hb
  ·rename_i e els fl hg
   split at hb
   ·rename_i hjn
    cases hl:byteE ((els.drop j).take n) with
    | none=>rw [hl] at hb; cases hb
    | some l' =>
     rw [hl] at hb
     injection hb with hb
     injection hb with h1 h2
     subst h1 h2
     obtain ⟨g1,g2⟩:=byteE_spec hl
     have hln:l'.length=n:=by rw [← g1,List.length_take,List.length_drop]; omega
     rcases hv.sl_inv with ⟨b,z,cap,cap',hρ,hc,hnc,rfl⟩ | ⟨z,hρ,rfl,rfl,rfl⟩
     ·obtain ⟨rfl,_,_,C,_,_,_,_,hcl⟩:=Jw hH (hI i (by simp)) hg hρ
      refine .inr ⟨b,j*1,cap',by rw [hln],fun k hk=>?_⟩
      have h3:=g2 k _ (getD_ hk)
      rw [List.getElem?_take,if_pos (by omega),List.getElem?_drop] at h3
      obtain ⟨q1,_,q3⟩:=hcl (j+k) _ 0 _ h3 rfl
      rw [q3.int_inv] at q1
      rw [show j*1+k=(j+k)*1+0 by omega]
      exact q1
     ·exact .inl ⟨List.eq_nil_of_length_eq_zero hln,_,_,rfl⟩
   ·cases hb
  ·cases hb
 ·rename_i i j o' n
  split at hb
  ·rename_i e z els fl hg
   split at hb
   ·rename_i el hj
    split at hb
    ·rename_i hon
     cases hl:bytesL ((el.drop o').take n) with
     | none=>rw [hl] at hb; cases hb
     | some l' =>
      rw [hl] at hb
      injection hb with hb
      injection hb with h1 h2
      subst h1 h2
      obtain ⟨g1,g2⟩:=bytesL_spec hl
      have hln:l'.length=n:=by rw [← g1,List.length_take,List.length_drop]; omega
      obtain ⟨b,z',cap,cap',hρ,hnc,rfl⟩:=hv.sa_inv
      obtain ⟨rfl,_,_,C,_,_,_,_,hcl⟩:=Jw hH (hI i (by simp)) hg hρ
      refine .inr ⟨b,j*z+o',cap',by rw [hln],fun k hk=>?_⟩
      have h3:=g2 k _ (getD_ hk)
      rw [List.getElem?_take,if_pos (by omega),List.getElem?_drop] at h3
      obtain ⟨q1,_,q3⟩:=hcl j _ (o'+k) _ hj h3
      rw [q3.int_inv] at q1
      rw [Nat.add_assoc]
      exact q1
    ·cases hb
   ·cases hb
  ·cases hb
 ·cases hb
theorem opt_b2s {src dst e:TypeId} {x:Operand} {r:Arg} (hs:P.underlying src=some (.slice e)) (hd:P.underlying dst=some .string) (he:P.underlying e=some (.int .u8)) (hx:Q1 x=some r) (ho:o.op = .convert src dst x) {v:AV} {rd:List Nat} {l:List Int} (hv:Qj F r=some v) (hb:bytesV H v=some (rd,l)) :
  OpT P o r.slots F H rd [] (.str (strN l)) H :=
 OpT.pure fun S ρ a w hF hH=>by
  have e1:=Qn hx hF (fun _ h=>h) hv
  refine ⟨.string (strN l),?_,.cl (.str _)⟩
  rcases bytesV_ok hb e1 hH (fun i h=>h) with ⟨rfl,A,cap,hc⟩ | ⟨b,off,cap,hc,hcell⟩
  ·cases A with
   | none=>simp [execOp,ho,hc,run_convert_bytes_nil w src e hs he _ _ dst hd]; rfl
   | some q =>
    have:(convert src dst (.slice (some q) 0 cap)).run P w = .ok (.string (strN [])) w:=by
     rw [run_convert_bytes_string w src dst e _ 0 cap hs he hd,run_bytesToString w q 0 cap [] (by simp [loadCells,loadCellsFrom])]
     rfl
    simp [execOp,ho,hc,this]
  ·have:=run_convert_bytes_arg (P:=P) w src e hs he b off l.length cap l rfl hcell dst hd
   simp [execOp,ho,hc,this]
   rfl
def scV:Sc->Value->Prop
 | .i n,c=>c = .int .i64 n
 | .b x,c=>c = .bool x
 | .s l,c=>∃ t:ByteArray,c = .string t/\t.toList=l
theorem scL_spec {w:World} {S:Nat->Prop} {ρ:Rho}:∀ {as:List AV} {la:List Sc},scL as=some la->la.length=as.length/\∀ (j:Nat) (x:Sc) (c:Value),la[j]?=some x->(∀ v,as[j]?=some v->VR w S ρ v c)->scV x c
 | [],la,h=>by simp [scL] at h; subst h; exact ⟨rfl,fun j n c h=>by simp at h⟩
 | v::as,la,h=>by
  have step:∀ (y:Sc),(scL as).map (y :: ·)=some la->(∀ c,VR w S ρ v c->scV y c)->la.length=(v::as).length/\∀ (j:Nat) (x:Sc) (c:Value),la[j]?=some x->(∀ u,(v::as)[j]?=some u->VR w S ρ u c)->scV x c:=fun y hm hy=>by
   cases hl:scL as with
   | none=>rw [hl] at hm; cases hm
   | some l =>
    rw [hl] at hm
    injection hm with hm; subst hm
    obtain ⟨g1,g2⟩:=scL_spec (w:=w) (S:=S) (ρ:=ρ) hl
    refine ⟨by simp [g1],fun j x c hj hc=>?_⟩
    cases j with
    | zero=>simp at hj; subst hj; exact hy c (hc v rfl)
    | succ j=>exact g2 j x c (by simpa using hj) (fun u hu=>hc u (by simpa using hu))
  unfold scL at h
  split at h
  ·rename_i heq; cases heq
  ·rename_i n l heq
   injection heq with h1 h2; subst h1 h2
   exact step _ h fun c hc=>hc.int_inv
  ·rename_i b l heq
   injection heq with h1 h2; subst h1 h2
   exact step _ h fun c hc=>hc.bool_inv
  ·rename_i s l heq
   injection heq with h1 h2; subst h1 h2
   exact step _ h fun c hc=>⟨s,hc.str_inv',rfl⟩
  ·cases h
theorem run_scFields {d:Nat} {xs ys:Array Value} (w:World):∀ (fs:List Field) (i:Nat) (la lb:List Sc),scFields P i fs=true->la.length=fs.length->lb.length=fs.length →
  (∀ (j:Nat) (x:Sc),la[j]?=some x->∃ c,xs[i+j]?=some c/\scV x c)->(∀ (j:Nat) (x:Sc),lb[j]?=some x->∃ c,ys[i+j]?=some c/\scV x c) →
  (∀ (j:Nat) (x y:Sc) (f:Field),la[j]?=some x->lb[j]?=some y->fs[j]?=some f->(∃ n m,x = .i n/\y = .i m/\P.underlying f.type=some (.int .i64))\/(∃ a b,x = .b a/\y = .b b/\P.underlying f.type=some .bool)\/(∃ a b,x = .s a/\y = .s b/\P.underlying f.type=some .string)) →
  (Op.eqFields (d+1) xs ys fs).run P w = .ok (decide (la=lb)) w
 | [],i,la,lb,_,h1,h2,_,_,_=>by
  obtain rfl:=List.eq_nil_of_length_eq_zero h1
  obtain rfl:=List.eq_nil_of_length_eq_zero h2
  simp [Op.eqFields]
 | f::fs,i,la,lb,hf,h1,h2,hx,hy,hk=>by
  obtain ⟨a,la,rfl⟩:∃ a l,la=a::l:=by cases la with | nil=>cases h1 | cons a l=>exact ⟨a,l,rfl⟩
  obtain ⟨b,lb,rfl⟩:∃ b l,lb=b::l:=by cases lb with | nil=>cases h2 | cons a l=>exact ⟨a,l,rfl⟩
  simp only [scFields,Bool.and_eq_true,decide_eq_true_eq,Bool.not_eq_true',beq_eq_false_iff_ne] at hf
  obtain ⟨⟨⟨⟨g1,g2⟩,g3⟩,g4⟩,g5⟩:=hf
  obtain ⟨ca,hca,va⟩:=hx 0 a rfl
  obtain ⟨cb,hcb,vb⟩:=hy 0 b rfl
  have p1:=run_part_plain (P:=P) (w:=w) g1 (xs:=xs) (off:=f.offset) (by rw [g3]; exact hca)
  have p2:=run_part_plain (P:=P) (w:=w) g1 (xs:=ys) (off:=f.offset) (by rw [g3]; exact hcb)
  have ih:=run_scFields (d:=d) (xs:=xs) (ys:=ys) w fs (i+1) la lb g5 (by simpa using h1) (by simpa using h2)
   (fun j n hj=>by rw [Nat.add_assoc,Nat.add_comm 1 j]; exact hx (j+1) n (by simpa using hj)) (fun j n hj=>by rw [Nat.add_assoc,Nat.add_comm 1 j]; exact hy (j+1) n (by simpa using hj))
   (fun j x y f' hj1 hj2 hj3=>hk (j+1) x y f' (by simpa using hj1) (by simpa using hj2) (by simpa using hj3))
  have eq_:(Op.equalIn (d+1) f.type ca cb).run P w = .ok (decide (a=b)) w:=by
   rcases hk 0 a b f rfl rfl rfl with ⟨n,m,rfl,rfl,hu⟩ | ⟨n,m,rfl,rfl,hu⟩ | ⟨n,m,rfl,rfl,hu⟩
   ·simp only [scV] at va vb
    subst va vb
    rw [run_equalIn_int w d f.type .i64 .i64 n m hu]
    congr 1
    by_cases e:n=m <;> simp [e]
   ·simp only [scV] at va vb
    subst va vb
    rw [run_equalIn_bool w d f.type n m hu]
    congr 1
    by_cases e:n=m <;> simp [e]
   ·simp only [scV] at va vb
    obtain ⟨t1,rfl,e1⟩:=va
    obtain ⟨t2,rfl,e2⟩:=vb
    rw [run_equalIn_string w d f.type t1 t2 hu,e1,e2]
    congr 1
    by_cases e:n=m <;> simp [e]
  simp only [Op.eqFields,if_pos g4,Sem.run_bind,p1,p2,Result.andThen_ok,eq_,Sem.run_ite]
  by_cases q:a=b
  ·subst q
   simp only [decide_true,Bool.not_true,Bool.false_eq_true,if_false,ih]
   simp
  ·simp [q]
theorem scKinds_at:∀ {fs:List Field} {i:Nat} {ks:List Nat},scFields P i fs=true->kindsF P fs=ks->∀ (j:Nat) (f:Field) (k:Nat),fs[j]?=some f->ks[j]?=some k->(k=0/\P.underlying f.type=some (.int .i64))\/(k=1/\P.underlying f.type=some .bool)\/(k=2/\P.underlying f.type=some .string)
 | [],i,ks,_,hk,j,f,k,hf,_=>by simp at hf
 | g::fs,i,ks,h,hk,j,f,k,hf,hj=>by
  subst hk
  simp only [scFields,Bool.and_eq_true] at h
  obtain ⟨⟨⟨⟨_,g2⟩,_⟩,_⟩,g5⟩:=h
  cases j with
  | zero =>
   simp at hf; subst hf
   simp only [kindsF,List.map_cons,List.getElem?_cons_zero,Option.some.injEq] at hj
   revert g2 hj
   cases hu:P.underlying g.type with
   | none=>intro g2; simp at g2
   | some d =>
    cases d with
    | int kk=>cases kk <;> simp_all [kindT]
    | bool=>simp_all [kindT]
    | string=>simp_all [kindT]
    | _=>intro g2; simp at g2
  | succ j=>exact scKinds_at g5 rfl j f k (by simpa using hf) (by simpa [kindsF] using hj)
theorem scK_at {x:Sc}:∀ {la:List Sc} {j:Nat},la[j]?=some x->(scK la)[j]?=some (scK1 x):=fun {la j} h=>by unfold scK; rw [List.getElem?_map,h]; rfl
theorem opt_aeqx {neg:Bool} {ks:List Nat} {t yt:TypeId} {x y:Operand} {rx ry:Arg} (ht:scT P t=some ks) (hx:Q1 x=some rx) (hy:Q1 y=some ry) (ho:o.op = .binOp (if neg=true then .neq else .eql) t x y yt) {as bs:List AV} {la lb:List Sc}
  (h1:Qj F rx=some (.agg as)) (h2:Qj F ry=some (.agg bs)) (ha:scL as=some la) (hb:scL bs=some lb) (hla:scK la=ks) (hlb:scK lb=ks):OpT P o (rx.slots++ry.slots) F H [] [] (.bool (neg != decide (la=lb))) H :=
 OpT.pure fun S ρ ac w hF _=>by
  obtain ⟨C,e1,c1,_,c2⟩:=(Qn hx hF (fun _ h=>by simp [h]) h1).agg_inv
  obtain ⟨D,e2,d1,_,d2⟩:=(Qn hy hF (fun _ h=>by simp [h]) h2).agg_inv
  obtain ⟨i1,i2⟩:=scL_spec (w:=w) (S:=S) (ρ:=ρ) ha
  obtain ⟨j1,j2⟩:=scL_spec (w:=w) (S:=S) (ρ:=ρ) hb
  have cell:∀ {C:Array Value} {as:List AV} {la:List Sc},C.size=as.length->(∀ j v,as[j]?=some v->VR w S ρ v (C.getD j undef))->la.length=as.length->(∀ (j:Nat) (x:Sc) (c:Value),la[j]?=some x->(∀ v,as[j]?=some v->VR w S ρ v c)->scV x c) →
    ∀ (j:Nat) (x:Sc),la[j]?=some x->∃ c,C[0+j]?=some c/\scV x c:=fun {C as la} hs h hl hg j x hj=>by
   have hlt:j<C.size:=by rw [hs,← hl]; exact (List.getElem?_eq_some_iff.1 hj).1
   refine ⟨C.getD j undef,by rw [Nat.zero_add,Array.getD_eq_getD_getElem?,Array.getElem?_eq_getElem hlt]; rfl,hg j x _ hj (fun v hv=>h j v hv)⟩
  unfold scT at ht
  split at ht
  ·rename_i fs hu
   split at ht
   ·rename_i hcond
    obtain ⟨k1,k2,k3⟩:=hcond
    injection ht with ht
    have hfs:P.fieldsOf t=fs:=by simp [Program.fieldsOf,hu]
    have hln:ks.length=fs.toList.length:=by rw [← ht]; simp [kindsF]
    have q:=run_scFields (P:=P) (d:=9998) (xs:=C) (ys:=D) w fs.toList 0 la lb k1 (by rw [← hln,← hla]; simp [scK]) (by rw [← hln,← hlb]; simp [scK]) (cell c1 c2 i1 i2) (cell d1 d2 j1 j2)
     (fun j x y f hj1 hj2 hj3=>by
      have a1:=scK_at hj1
      have a2:=scK_at hj2
      rw [hla] at a1
      rw [hlb] at a2
      have e:=Option.some.inj (a1.symm.trans a2)
      have b:=scKinds_at k1 ht j f _ hj3 a1
      cases x <;> cases y <;> simp_all [scK1])
    have heq:(Op.equalIn 10000 t (.agg C) (.agg D)).run P w = .ok (decide (la=lb)) w:=by
     rw [run_equalIn_struct w 9999 t C D (by rw [hfs]; exact hu) k2,hfs]; exact q
    refine ⟨.bool (neg != decide (la=lb)),?_,.cl (.bool _)⟩
    cases neg
    ·simp [execOp,ho,e1,e2,run_eqGuard_agg w _ t x y C D k3,run_eql_struct,heq]
    ·simp [execOp,ho,e1,e2,run_eqGuard_agg w _ t x y C D k3,run_neq_struct,heq]
   ·cases ht
  ·cases ht
end
end Go.Proofs.YthfhaoogcpfboaaGreat
namespace Go.Proofs.YthfhaoogcpfboaaGreat
open Go.RowKit
section
variable {P:Program} {o:Oper} {F:List (Nat×AV)} {H:List (Nat×Ob)} {d:Nat} {K:AV->List Nat->List Nat->List (Nat×Ob)->Prop}
theorem map_some {α β:Type} {f:α->β} {x:Option α} {y:β} (h:x.map f=some y):∃ a,x=some a/\f a=y:=by
 cases x with
 | none=>cases h
 | some a=>exact ⟨a,rfl,by injection h⟩
theorem args_one {c:Call} {b:Builtin} (hc:c.callee = .builtin b) {x:Operand} {t:TypeId} (h1:c.args.toList=[x]) (h2:c.argTypes.toList=[t]):c={ callee:=.builtin b,args := #[x],argTypes := #[t] }:=by
 obtain ⟨callee,⟨args⟩,⟨ats⟩⟩:=c
 simp at hc h1 h2
 subst hc h1 h2
 rfl
theorem args_two {c:Call} {b:Builtin} (hc:c.callee = .builtin b) {x y:Operand} {t u:TypeId} (h1:c.args.toList=[x,y]) (h2:c.argTypes.toList=[t,u]):c={ callee:=.builtin b,args := #[x,y],argTypes := #[t,u] }:=by
 obtain ⟨callee,⟨args⟩,⟨ats⟩⟩:=c
 simp at hc h1 h2
 subst hc h1 h2
 rfl
theorem args_two' {c:Call} {b:Builtin} (hc:c.callee = .builtin b) {x y:Operand} (h1:c.args.toList=[x,y]):c={ callee:=.builtin b,args := #[x,y],argTypes:=c.argTypes }:=by
 obtain ⟨callee,⟨args⟩,ats⟩:=c
 simp at hc h1
 subst hc h1
 rfl
theorem Q0 {m:MOp} {v:AV} (hK:K v [] [] H) (h:OpT P o m.slots F H [] [] v H):Found P o m F H K:=⟨v,[],[],H,hK,fun _ _=>rfl,fun _ h=>(by cases h),h⟩
theorem Jm {m:MOp} (h:∃ v,K v [] [] H/\OpT P o m.slots F H [] [] v H):Found P o m F H K:=by
 obtain ⟨v,h1,h2⟩:=h
 exact Q0 h1 h2
theorem JO {m:MOp} (h:∃ v rd,K v rd [] H/\OpT P o m.slots F H rd [] v H):Found P o m F H K:=by
 obtain ⟨v,rd,h1,h2⟩:=h
 exact ⟨v,rd,[],H,h1,fun _ _=>rfl,fun _ h=>(by cases h),h2⟩
theorem found_bin2 {op:BinOp} {t yt:TypeId} {x y:Operand} {m:MOp} (ho:o.op = .binOp op t x y yt) (hc:compBin2 P op t x y=some m) (h:mev F H d K m):Found P o m F H K:=by
 unfold compBin2 at hc
 split at hc
 ·rename_i hif
  split at hc
  ·obtain ⟨r,hr,rfl⟩:=map_some hc
   simp only [mev] at h
   split at h
   ·rename_i hv; exact Q0 h (opt_ifnil (neg:=false) hif hr ho hv (.inl ⟨rfl,rfl⟩))
   ·rename_i u v hv; exact Q0 h (opt_ifnil (neg:=false) hif hr ho hv (.inr ⟨_,_,rfl,rfl⟩))
   ·exact h.elim
  ·obtain ⟨r,hr,rfl⟩:=map_some hc
   simp only [mev] at h
   split at h
   ·rename_i hv; exact Q0 h (opt_ifnil (neg:=true) hif hr ho hv (.inl ⟨rfl,rfl⟩))
   ·rename_i u v hv; exact Q0 h (opt_ifnil (neg:=true) hif hr ho hv (.inr ⟨_,_,rfl,rfl⟩))
   ·exact h.elim
  ·cases hc
 ·split at hc
  ·rename_i n a b hn ha hb
   injection hc with hc; subst hc
   simp only [mev] at h
   split at h
   ·rename_i as bs h1 h2
    split at h
    ·rename_i la lb g1 g2
     exact Q0 h.2.2 (opt_aeq (neg:=false) hn ha hb ho h1 h2 g1 g2 h.1 h.2.1)
    ·exact h.elim
   ·exact h.elim
  ·rename_i n a b hn ha hb
   injection hc with hc; subst hc
   simp only [mev] at h
   split at h
   ·rename_i as bs h1 h2
    split at h
    ·rename_i la lb g1 g2
     exact Q0 h.2.2 (opt_aeq (neg:=true) hn ha hb ho h1 h2 g1 g2 h.1 h.2.1)
    ·exact h.elim
   ·exact h.elim
  ·rename_i a b hn ha hb
   unfold compBin3 at hc
   split at hc
   ·rename_i hst
    split at hc
    ·injection hc with hc; subst hc
     simp only [mev] at h
     split at h
     ·rename_i s u h1 h2; exact Q0 h.2 (opt_scat ha hb ho h1 h2 h.1)
     ·exact h.elim
    ·injection hc with hc; subst hc
     simp only [mev] at h
     split at h
     ·rename_i s u h1 h2; exact Q0 h (opt_seq (neg:=false) ha hb ho h1 h2)
     ·exact h.elim
    ·injection hc with hc; subst hc
     simp only [mev] at h
     split at h
     ·rename_i s u h1 h2; exact Q0 h (opt_seq (neg:=true) ha hb ho h1 h2)
     ·exact h.elim
    ·cases hc
   ·split at hc
    ·rename_i ks hk
     injection hc with hc; subst hc
     simp only [mev] at h
     split at h
     ·rename_i as bs h1 h2
      split at h
      ·rename_i la lb g1 g2
       exact Q0 h.2.2 (opt_aeqx (neg:=false) hk ha hb ho h1 h2 g1 g2 h.1 h.2.1)
      ·exact h.elim
     ·exact h.elim
    ·rename_i ks hk
     injection hc with hc; subst hc
     simp only [mev] at h
     split at h
     ·rename_i as bs h1 h2
      split at h
      ·rename_i la lb g1 g2
       exact Q0 h.2.2 (opt_aeqx (neg:=true) hk ha hb ho h1 h2 g1 g2 h.1 h.2.1)
      ·exact h.elim
     ·exact h.elim
    ·split at hc
     ·rename_i n hk
      injection hc with hc; subst hc
      simp only [mev] at h
      split at h
      ·rename_i as bs h1 h2
       split at h
       ·rename_i la lb g1 g2
        exact Q0 h.2.2 (opt_aeq8 hk ha hb ho h1 h2 g1 g2 h.1 h.2.1)
       ·exact h.elim
      ·exact h.elim
     ·cases hc
    ·cases hc
  ·cases hc
theorem found_call {c:Call} {m:MOp} (ho:o.op = .call c) (hc:compCall P c=some m) (h:mev F H d K m):Found P o m F H K:=by
 unfold compCall at hc
 split at hc
 ·-- a static call
  split at hc
  ·split at hc
   ·injection hc with hc; subst hc; exact h.elim
   ·cases hc
  ·cases hc
 ·split at hc
  ·injection hc with hc; subst hc; exact h.elim
  ·cases hc
 ·split at hc
  ·injection hc with hc; subst hc; exact h.elim
  ·cases hc
 ·-- len
  rename_i hb
  split at hc
  ·rename_i x t hx ht
   have e:=args_one hb hx ht
   rw [e] at ho
   split at hc
   ·rename_i e0 a hu ha
    injection hc with hc; subst hc
    exact Jm (opt_len hu ha ho (K:=fun v=>K v [] [] H) h)
   ·rename_i n e0 hu
    injection hc with hc; subst hc
    exact Q0 h (opt_lenc hu ho _)
   ·rename_i k0 e0 a hu ha
    injection hc with hc; subst hc
    simp only [mev] at h
    split at h
    ·rename_i i hv
     split at h
     ·rename_i ks hi; exact JO ⟨_,_,h,opt_lenm hu ha ho hv hi⟩
     ·exact h.elim
    ·exact h.elim
   ·rename_i a hu ha
    injection hc with hc; subst hc
    simp only [mev] at h
    split at h
    ·rename_i s hv; exact Q0 h (opt_slen hu ha ho hv)
    ·exact h.elim
   ·cases hc
  ·cases hc
 ·-- append
  rename_i hb
  split at hc
  ·rename_i x y t u hx ht
   split at hc
   ·rename_i htu
    subst htu
    have e:=args_two hb hx ht
    rw [e] at ho
    split at hc
    ·rename_i e0 a b hu ha hbb
     split at hc
     ·rename_i z by_ zero hz
      split at hc
      ·cases hc
      ·rename_i hz0
       injection hc with hc; subst hc
       simp only [mev] at h
       split at h
       ·rename_i v hv hw
        split at h
        ·rename_i rd news hs
         obtain ⟨_,h1,h2,h3,h4,h5⟩:=h
         exact ⟨_,_,_,_,h5,fun i hi=>Xa hi,fun k hk=>Xe hk,opt_app_nil hu hz hz0 ha hbb ho hv hw hs h1 h2 h3 h4⟩
        ·exact h.elim
       ·rename_i i n v hv hw
        split at h
        ·rename_i e' z' els fl rd news hi hs
         obtain ⟨_,h1,rfl,rfl,h6,h7,h8,h⟩:=h
         rcases h with ⟨h4,h5,h9⟩ | ⟨h4,h5,h9⟩
         ·refine ⟨_,_,_,_,h9,fun k hk=>?_,fun k hk=>?_,opt_app hu hz hz0 ha hbb ho hv hw hi hs h1 h4 h5 h6 h7 h8⟩
          all_goals simp at hk
          ·rw [Xa (by simpa using hk.2),Xa (by simpa using hk.1)]
          ·rcases hk with rfl | rfl <;> simp [get] <;> split <;> rfl
         ·refine ⟨_,_,_,_,h9,fun k hk=>?_,fun k hk=>?_,opt_app_own hu hz hz0 ha hbb ho hv hw hi hs h1 h4 h5 h6 h7 h8⟩
          all_goals simp at hk
          ·rw [Xa (by simpa using hk.2),Xa (by simpa using hk.1)]
          ·rcases hk with rfl | rfl <;> simp [get] <;> split <;> rfl
        ·exact h.elim
       ·exact h.elim
     ·cases hc
    ·cases hc
   ·cases hc
  ·cases hc
 ·-- copy
  rename_i hb
  split at hc
  ·rename_i x y t u hx ht
   have e:=args_two hb hx ht
   rw [e] at ho
   split at hc
   ·rename_i e0 a b hu ha hbb
    split at hc
    ·rename_i hz
     injection hc with hc; subst hc
     simp only [mev] at h
     split at h
     ·rename_i i j p n v hv hw
      split at h
      ·rename_i e' z els fl rd news hi hs
       split at h
       ·rename_i el hj
        obtain ⟨h1,h2,h3,h4,h5⟩:=h
        exact ⟨_,_,_,_,h5,fun k hk=>Xa hk,fun k hk=>Xe hk,opt_cpy hu hz ha hbb ho hv hw hi hs hj h1 h2 h3 h4⟩
       ·exact h.elim
      ·exact h.elim
     ·exact h.elim
    ·cases hc
   ·cases hc
  ·cases hc
 ·-- clear
  rename_i hb
  split at hc
  ·rename_i x t hx ht
   have e:=args_one hb hx ht
   rw [e] at ho
   split at hc
   ·rename_i e0 a hu ha
    split at hc
    ·rename_i z by_ zero hz
     split at hc
     ·cases hc
     ·rename_i hz0
      injection hc with hc; subst hc
      simp only [mev] at h
      split at h
      ·rename_i i j n hv
       split at h
       ·rename_i e' z' els fl hi
        obtain ⟨rfl,h1,h2,h3⟩:=h
        exact ⟨_,_,_,_,h3,fun k hk=>Xa hk,fun k hk=>Xe hk,opt_clr hu hz hz0 ha ho hv hi h1 h2⟩
       ·exact h.elim
      ·exact h.elim
    ·cases hc
   ·cases hc
  ·cases hc
 ·-- min
  rename_i hb
  split at hc
  ·rename_i x y hx
   have e:=args_two' hb hx
   rw [e] at ho
   split at hc
   ·rename_i a b ha hbb
    injection hc with hc; subst hc
    simp only [mev] at h
    split at h
    ·rename_i k n k' n' h1 h2
     exact Q0 h (opt_mn ha hbb ho h1 h2)
    ·exact h.elim
   ·cases hc
  ·cases hc
 ·-- max
  rename_i hb
  split at hc
  ·rename_i x y hx
   have e:=args_two' hb hx
   rw [e] at ho
   split at hc
   ·rename_i a b ha hbb
    injection hc with hc; subst hc
    simp only [mev] at h
    split at h
    ·rename_i k n k' n' h1 h2
     exact Q0 h (opt_mx ha hbb ho h1 h2)
    ·exact h.elim
   ·cases hc
  ·cases hc
 ·cases hc
theorem mev_found {m:MOp} (hc:QT P o.op=some m) (h:mev F H d K m):Found P o m F H K:=by
 cases ho:o.op with
 | move x =>
  rw [ho] at hc
  obtain ⟨r,hr,rfl⟩:=map_some hc
  simp only [mev] at h
  split at h
  ·rename_i v hv; exact Q0 h (opt_mv hr (.inl ho) hv)
  ·exact h.elim
 | assign x =>
  rw [ho] at hc
  obtain ⟨r,hr,rfl⟩:=map_some hc
  simp only [mev] at h
  split at h
  ·rename_i v hv; exact Q0 h (opt_mv hr (.inr ho) hv)
  ·exact h.elim
 | pick c a b =>
  rw [ho] at hc
  simp only [QT] at hc
  split at hc
  ·rename_i rc ra rb h1 h2 h3
   injection hc with hc; subst hc
   simp only [mev] at h
   split at h
   ·rename_i t ht
    split at h
    ·rename_i v hv; exact Q0 h (opt_pick h1 h2 h3 ho ht hv)
    ·exact h.elim
   ·exact h.elim
  ·cases hc
 | alloc e =>
  rw [ho] at hc
  simp only [QT] at hc
  split at hc
  ·rename_i z by_ zero hz
   injection hc with hc; subst hc
   simp only [mev] at h
   exact ⟨_,_,_,_,h.2.2,fun k hk=>Xa hk,fun k hk=>Xe hk,opt_alloc hz ho h.2.1 _ (tyZ_closed hz)⟩
  ·cases hc
 | box e x =>
  rw [ho] at hc
  simp only [QT] at hc
  split at hc
  ·rename_i z a hz ha
   injection hc with hc; subst hc
   simp only [mev] at h
   split at h
   ·rename_i v hv
    split at h
    ·rename_i cs hcs
     exact ⟨_,_,_,_,h.2.2,fun k hk=>Xa hk,fun k hk=>Xe hk,opt_box hz ha ho h.2.1 hv hcs h.1⟩
    ·exact h.elim
   ·exact h.elim
  ·cases hc
 | build t parts =>
  rw [ho] at hc
  simp only [QT] at hc
  split at hc
  ·rename_i fields n by_ zero hu hz
   split at hc
   ·rename_i ps hp
    split at hc
    ·rename_i hall
     injection hc with hc; subst hc
     simp only [mev] at h
     split at h
     ·rename_i cs hcs; exact Q0 h (opt_build_struct hu hz hp hall ho hcs)
     ·exact h.elim
    ·cases hc
   ·cases hc
  ·rename_i len e n by_ zero hu hz
   split at hc
   ·rename_i m hm
    split at hc
    ·rename_i ps hp
     injection hc with hc; subst hc
     simp only [mev] at h
     split at h
     ·rename_i cs hcs; exact Q0 h (opt_build_array hu hz hm hp ho hcs)
     ·exact h.elim
    ·cases hc
   ·cases hc
  ·cases hc
 | buildSlice t len parts =>
  rw [ho] at hc
  simp only [QT] at hc
  split at hc
  ·rename_i e hu
   split at hc
   ·rename_i z by_ zero ps hz hp
    split at hc
    ·rename_i hl
     injection hc with hc; subst hc
     simp only [mev] at h
     split at h
     ·rename_i l hf
      exact ⟨_,_,_,_,h.2.2,fun k hk=>Xa hk,fun k hk=>Xe hk,opt_bslice hu hz hp hl.1 hl.2.1 hl.2.2 ho h.2.1 hf⟩
     ·exact h.elim
    ·cases hc
   ·cases hc
  ·cases hc
 | load t x =>
  rw [ho] at hc
  simp only [QT] at hc
  split at hc
  ·rename_i g n a hg hz ha
   injection hc with hc; subst hc
   exact JO (opt_ld hg hz ha ho (K:=fun v rd=>K v rd [] H) h)
  ·rename_i n hg hz ha
   split at hc
   ·rename_i g
    injection hc with hc; subst hc
    simp only [mev] at h
    split at h
    ·rename_i g' cs hi
     obtain ⟨rfl,h1,h2⟩:=h
     exact JO ⟨_,_,h2,opt_ldg hg hz ho hi h1 _⟩
    ·exact h.elim
   ·cases hc
  ·cases hc
 | store t x v =>
  rw [ho] at hc
  simp only [QT] at hc
  split at hc
  ·rename_i n a b hz ha hb
   injection hc with hc; subst hc
   simp only [mev] at h
   split at h
   ·rename_i i j p u hv hu
    split at h
    ·rename_i e z els fl cs hi hcs
     split at h
     ·rename_i el hj
      exact ⟨_,_,_,_,h.2.2,fun k hk=>Xa hk,fun k hk=>Xe hk,opt_st hz ha hb ho hv hu hi hcs hj h.1 h.2.1⟩
     ·exact h.elim
    ·exact h.elim
   ·exact h.elim
  ·cases hc
 | nilCheck x =>
  rw [ho] at hc
  obtain ⟨r,hr,rfl⟩:=map_some hc
  simp only [mev] at h
  split at h
  ·rename_i i j p hv; exact Q0 h (opt_nilc hr ho hv (.inl ⟨_,_,_,rfl⟩))
  ·rename_i cs hv; exact Q0 h (opt_nilc hr ho hv (.inr ⟨_,rfl⟩))
  ·exact h.elim
 | binOp op t x y yt =>
  rw [ho] at hc
  simp only [QT] at hc
  split at hc
  ·split at hc
   ·rename_i a b ha hb
    injection hc with hc; subst hc
    simp only [mev] at h
    split at h
    ·rename_i k n k' n' h1 h2
     exact Jm (opt_bin ha hb ho h1 h2 h)
    ·exact h.elim
   ·cases hc
  ·split at hc
   ·rename_i hbt
    have ht:P.underlying t=some .bool:=by
     unfold isBoolT at hbt
     split at hbt
     ·assumption
     ·cases hbt
    split at hc
    ·rename_i a b ha hb
     injection hc with hc; subst hc
     simp only [mev] at h
     split at h
     ·rename_i u v h1 h2
      exact Q0 h (opt_beq (neg:=false) ha hb ho ht h1 h2)
     ·exact h.elim
    ·rename_i a b ha hb
     injection hc with hc; subst hc
     simp only [mev] at h
     split at h
     ·rename_i u v h1 h2
      exact Q0 h (opt_beq (neg:=true) ha hb ho ht h1 h2)
     ·exact h.elim
    ·cases hc
   ·split at hc
    ·rename_i sl a hn ha
     injection hc with hc; subst hc
     exact Jm (opt_isnil (neg:=false) ha ho hn (K:=fun v=>K v [] [] H) rfl h)
    ·rename_i sl a hn ha
     injection hc with hc; subst hc
     exact Jm (opt_isnil (neg:=true) ha ho hn (K:=fun v=>K v [] [] H) rfl h)
    ·exact found_bin2 ho hc h
    ·cases hc
 | sliceToArrayPointer t x =>
  rw [ho] at hc
  simp only [QT] at hc
  split at hc
  ·rename_i n e a hu ha
   split at hc
   ·rename_i hz
    injection hc with hc; subst hc
    simp only [mev] at h
    split at h
    ·rename_i z els hv
     obtain ⟨l,rfl,rfl,h1,h2⟩:=h
     exact Q0 h2 (opt_s2ap hu ha ho hv h1 hz.2)
    ·exact h.elim
   ·cases hc
  ·cases hc
 | unOp op t x =>
  rw [ho] at hc
  obtain ⟨r,hr,rfl⟩:=map_some hc
  exact Jm (opt_un hr (K:=fun v=>K v [] [] H) h ho)
 | convert src dst x =>
  rw [ho] at hc
  simp only [QT] at hc
  split at hc
  ·rename_i ks k h1 h2
   obtain ⟨r,hr,rfl⟩:=map_some hc
   simp only [mev] at h
   split at h
   ·rename_i k' n hv; exact Q0 h (opt_cvt hr ho h1 h2 hv)
   ·exact h.elim
  ·rename_i e h1 h2
   split at hc
   ·rename_i h8
    obtain ⟨r,hr,rfl⟩:=map_some hc
    simp only [mev] at h
    split at h
    ·rename_i s hv; exact Q0 h (opt_s2b h1 h2 (isU8T_spec h8) hr ho hv)
    ·exact h.elim
   ·cases hc
  ·rename_i e h1 h2
   split at hc
   ·rename_i h8
    obtain ⟨r,hr,rfl⟩:=map_some hc
    simp only [mev] at h
    split at h
    ·rename_i v hv
     split at h
     ·rename_i rd l hb; exact JO ⟨_,_,h,opt_b2s h1 h2 (isU8T_spec h8) hr ho hv hb⟩
     ·exact h.elim
    ·exact h.elim
   ·cases hc
  ·cases hc
 | makeFunc fn first captured =>
  rw [ho] at hc
  simp only [QT] at hc
  split at hc
  ·rename_i hf
   obtain ⟨rs,hr,rfl⟩:=map_some hc
   simp only [mev] at h
   split at h
   ·rename_i vs hv; exact Q0 h (opt_mkfn hf hr ho hv)
   ·exact h.elim
  ·split at hc
   ·rename_i name x hfst hcap
    obtain ⟨r,hr,rfl⟩:=map_some hc
    simp only [mev] at h
    split at h
    ·rename_i v hv; exact Q0 h.2 (opt_mkbm hfst hcap hr ho hv h.1)
    ·exact h.elim
   ·rename_i f x hfst hcap
    obtain ⟨r,hr,rfl⟩:=map_some hc
    simp only [mev] at h
    split at h
    ·rename_i v hv; exact Q0 h (opt_mkbnd hfst hcap hr ho hv)
    ·exact h.elim
   ·cases hc
 | makeInterface t x =>
  rw [ho] at hc
  simp only [QT] at hc
  split at hc
  ·rename_i ht
   obtain ⟨r,hr,rfl⟩:=map_some hc
   simp only [mev] at h
   split at h
   ·rename_i v hv; exact Q0 h.2 (opt_mkif ht hr ho hv h.1)
   ·exact h.elim
  ·cases hc
 | makeSlice t l c =>
  rw [ho] at hc
  simp only [QT] at hc
  split at hc
  ·rename_i e hu
   split at hc
   ·rename_i z by_ zero a b hz ha hb
    split at hc
    ·cases hc
    ·rename_i hz0
     injection hc with hc; subst hc
     simp only [mev] at h
     split at h
     ·rename_i n n' h1 h2
      obtain ⟨_,hd,h0,hnq,h63,hby,h⟩:=h
      exact ⟨_,_,_,_,h,fun k hk=>Xa hk,fun k hk=>Xe hk,opt_mksl hu hz hz0 ha hb ho hd (tyZ_closed hz) h1 h2 h0 hnq h63 hby⟩
     ·exact h.elim
   ·cases hc
  ·cases hc
 | slice t x lo hi mx =>
  rw [ho] at hc
  cases mx with
  | some q=>simp [QT] at hc
  | none =>
   simp only [QT] at hc
   split at hc
   ·rename_i e a l h' hu ha hl hh
    split at hc
    ·rename_i z hz
     split at hc
     ·cases hc
     ·injection hc with hc; subst hc
      exact JO (opt_slc hu hz ha hl hh ho (K:=fun v rd=>K v rd [] H) h)
    ·cases hc
   ·rename_i n e a l h' hu ha hl hh
    split at hc
    ·rename_i hz
     injection hc with hc; subst hc
     simp only [mev] at h
     split at h
     ·rename_i i j p hv
      split at h
      ·rename_i l0 h0 h1 h2
       obtain ⟨g1,g2,g3,g4,g5⟩:=h
       exact Q0 g5 (opt_slarr hu hz ha hl hh ho hv h1 h2 g1 g2 g3 g4)
      ·exact h.elim
     ·rename_i cs hv
      split at h
      ·rename_i l0 h0 h1 h2
       obtain ⟨rfl,rfl,g3,g4,g5⟩:=h
       exact Q0 g5 (opt_slarr_r hu hz ha hl hh ho hv h1 h2 g3 g4)
      ·exact h.elim
     ·exact h.elim
    ·cases hc
   ·rename_i a h' hu ha hl hh
    injection hc with hc; subst hc
    obtain rfl:lo=none:=by
     cases lo with
     | none=>rfl
     | some q =>
      simp only [copt] at hl
      split at hl <;> cases hl
    cases hi with
    | none=>simp [copt] at hh
    | some q =>
     have hq:Q1 q=some h':=by
      simp only [copt] at hh
      split at hh
      ·rename_i a1 e1; injection hh with hh; injection hh with hh; rw [e1,hh]
      ·cases hh
     simp only [mev] at h
     split at h
     ·rename_i s k n h1 h2; exact Q0 h.2.2 (opt_stake hu ha hq ho h1 h2 h.1 h.2.1)
     ·exact h.elim
   ·cases hc
 | fieldAddr s x f =>
  rw [ho] at hc
  simp only [QT] at hc
  split at hc
  ·rename_i fields a hu ha
   split at hc
   ·rename_i fd hf
    split at hc
    ·rename_i n hz
     split at hc
     ·cases hc
     ·rename_i hn
      injection hc with hc; subst hc
      exact Jm (opt_fa hu hf hz hn ha ho (K:=fun v=>K v [] [] H) h)
    ·cases hc
   ·cases hc
  ·cases hc
 | field t x f =>
  rw [ho] at hc
  simp only [QT] at hc
  split at hc
  ·rename_i fields a hu ha
   split at hc
   ·rename_i fd hf
    split at hc
    ·rename_i g n hg hz
     injection hc with hc; subst hc
     exact Jm (opt_fld hu hf hg hz ha ho (K:=fun v=>K v [] [] H) h)
    ·cases hc
   ·cases hc
  ·cases hc
 | indexAddr t x i =>
  rw [ho] at hc
  simp only [QT] at hc
  split at hc
  ·rename_i e a b hu ha hb
   split at hc
   ·rename_i z hz
    injection hc with hc; subst hc
    exact JO (opt_ixsl hu hz ha hb ho (K:=fun v rd=>K v rd [] H) h)
   ·cases hc
  ·rename_i n e a b hu ha hb
   split at hc
   ·rename_i z hz
    injection hc with hc; subst hc
    exact Jm (opt_ixarr hu hz ha hb ho (K:=fun v=>K v [] [] H) h)
   ·cases hc
  ·cases hc
 | index t x i =>
  rw [ho] at hc
  simp only [QT] at hc
  split at hc
  ·rename_i n e a b hu ha hb
   split at hc
   ·rename_i g z hg hz
    injection hc with hc; subst hc
    exact Jm (opt_ixval hu hg hz ha hb ho (K:=fun v=>K v [] [] H) h)
   ·cases hc
  ·rename_i a b hu ha hb
   injection hc with hc; subst hc
   simp only [mev] at h
   split at h
   ·rename_i s k n h1 h2
    split at h
    ·rename_i b8 h3; exact Q0 h.2 (opt_sidx hu ha hb ho h1 h2 h.1 h3)
    ·exact h.elim
   ·exact h.elim
  ·cases hc
 | extract x i =>
  rw [ho] at hc
  obtain ⟨r,hr,rfl⟩:=map_some hc
  simp only [mev] at h
  split at h
  ·rename_i vs hv
   split at h
   ·rename_i v hi; exact Q0 h (opt_ext hr ho hv hi)
   ·exact h.elim
  ·exact h.elim
 | call c =>
  rw [ho] at hc
  exact found_call ho hc h
 | makeMap t r =>
  rw [ho] at hc
  cases r with
  | none =>
   simp only [QT] at hc
   injection hc with hc; subst hc
   simp only [mev] at h
   exact ⟨_,_,_,_,h.2,fun k hk=>Xa hk,fun k hk=>Xe hk,opt_mkmap ho h.1 _⟩
  | some r=>simp [QT] at hc
 | mapUpdate t m k v =>
  rw [ho] at hc
  simp only [QT] at hc
  split at hc
  ·rename_i nk a b c ht ha hb hc'
   injection hc with hc; subst hc
   simp only [mev] at h
   split at h
   ·rename_i i cs h1 h2 h3
    split at h
    ·rename_i ks l hi hl
     exact ⟨_,_,_,_,h.2.2.2,fun k hk=>Xa hk,fun k hk=>Xe hk,opt_mapadd ht ha hb hc' ho h1 h2 h3 hi hl h.1 h.2.1 h.2.2.1⟩
    ·exact h.elim
   ·exact h.elim
  ·cases hc
 | insert t m k v =>
  rw [ho] at hc
  simp only [QT] at hc
  split at hc
  ·rename_i ht
   split at hc
   ·rename_i a b c ha hb hc'
    injection hc with hc; subst hc
    simp only [mev] at h
    split at h
    ·rename_i i n u h1 h2 h3
     split at h
     ·rename_i hi
      exact ⟨_,_,_,_,h,fun k hk=>Xa hk,fun k hk=>Xe hk,opt_fins (kvs:=[]) ht ha hb hc' ho h1 h2 h3 hi (.inl ⟨rfl,rfl⟩)⟩
     ·rename_i kvs hi
      exact ⟨_,_,_,_,h.2,fun k hk=>Xa hk,fun k hk=>Xe hk,opt_fins ht ha hb hc' ho h1 h2 h3 hi (.inr ⟨rfl,h.1⟩)⟩
     ·exact h.elim
    ·exact h.elim
   ·cases hc
  ·cases hc
 | lookup t m k ok =>
  rw [ho] at hc
  cases ok with
  | false =>
   simp only [QT] at hc
   split at hc
   ·rename_i nk a b ht ha hb
    injection hc with hc; subst hc
    simp only [mev] at h
    split at h
    ·rename_i i cs h1 h2
     split at h
     ·rename_i ks l hi hl
      exact JO ⟨_,_,h.2.2,opt_mhas ht ha hb ho h1 h2 hi hl h.1 h.2.1⟩
     ·exact h.elim
    ·exact h.elim
   ·cases hc
  | true =>
   simp only [QT] at hc
   split at hc
   ·rename_i ht
    split at hc
    ·rename_i a b ha hb
     injection hc with hc; subst hc
     simp only [mev] at h
     split at h
     ·rename_i i n h1 h2
      split at h
      ·rename_i kvs hi; exact JO ⟨_,_,h.2,opt_flk ht ha hb ho h1 h2 hi h.1⟩
      ·exact h.elim
     ·exact h.elim
    ·cases hc
   ·cases hc
 | panic x =>
  rw [ho] at hc
  simp only [QT] at hc
  injection hc with hc; subst hc
  exact h.elim
 | _=>rw [ho] at hc; simp [QT] at hc
end
end Go.Proofs.YthfhaoogcpfboaaGreat
namespace Go.Proofs.YthfhaoogcpfboaaGreat
open Go.RowKit
structure MOper where
 dst:Option Nat
 op:MOp
 guard:Option (Nat×Bool)
 pre:List Nat
def preOf (o:Oper):List Nat:=(o.after.toList.filter (Region.binds .any)).map (·.on)
def dstOK (N:Nat):Option Nat->Bool
 | none=>true
 | some d=>decide (d<N)
def XQ (P:Program) (N:Nat) (ops:Array Oper) (o:Oper):Option MOper :=
 match QT P o.op with
 | none=>none
 | some m=>if dstOK N o.dst=true then
   match o.guard with
   | none=>some ⟨o.dst,m,none,preOf o⟩
   | some (j,want)=>match (ops[j]?).bind (·.dst) with
    | some g=>some ⟨o.dst,m,some (g,want),preOf o⟩
    | none=>none
  else none
def putF (F:List (Nat×AV)) (dst:Option Nat) (v:AV):List (Nat×AV) :=
 match dst with
 | some d=>(d,v)::F
 | none=>F
def MOper.slots (mo:MOper):List Nat:=mo.op.slots++match mo.guard with
 | none=>[]
 | some (g,_)=>[g]
def Fc:Option Nat->Fence
 | none=>Fence.wide
 | some l=>Fence.wide.inRound l
theorem Fc_round (r:Option Nat):(Fc r).round=r:=by cases r <;> rfl
theorem Fc_fn (r:Option Nat) (f:FuncId):(Fc r).fn f:=by cases r <;> trivial
theorem Fc_depth (r:Option Nat):(Fc r).depth.isSome=true->False:=by cases r <;> (intro h; cases h)
theorem fenced_Fc (P:Program) (r:Option Nat):Machine.fenced P (Fc r)=Machine.fenced P Fence.wide:=by cases r <;> rfl
theorem callsIn_Fc {r:Option Nat} {n:Nat} {P:Program} {f:FuncId} {args:Array Value} {w:World} {R:Ending->World->Prop}:CallsIn (Fc r) n P f args w R ↔ Calls P f args w R:=by
 cases r with
 | none=>exact callsIn_wide
 | some l=>exact ⟨fun h=>callsIn_wide.1 (CallsIn.outOfRound h),fun h=>CallsIn.inRound l (callsIn_wide.2 h)⟩
theorem rowsIn_Fc {r:Option Nat} {n:Nat} {P:Program} {row:String} {args:Array Value} {w:World} {R:Value->World->Prop} (h:Rows P row args w R):RowsIn (Fc r) n P row args w R:=fun c cs _=>by
 obtain ⟨v,w',q,s⟩:=h c cs
 exact ⟨v,w',q,by rw [fenced_Fc]; exact stepsIn_wide.2 s⟩
theorem wpIn_of_wp {r:Option Nat} {P:Program} {o:Oper} {a:Act} {w:World} {K:Act->World->Prop} {Q:Exit->Act->World->Prop} (hnd:∀ c,o.op ≠ .defer c) (h:o.wp P a w K Q):o.wpIn (Fc r) 0 P a w K Q:=by
 refine ⟨fun f _=>Fc_fn r f,?_⟩
 rw [Oper.semAt_eq _ _ _ hnd]
 unfold Oper.wp at h
 generalize (execOp a.eval o).run P w=res at h ⊢
 unfold Oper.upon at h
 split at h
 ·exact h
 ·exact h
 ·exact h
 ·exact ⟨fun hd=>(Fc_depth r hd).elim,callsIn_Fc.2 h⟩
 ·exact ⟨fun hd=>(Fc_depth r hd).elim,rowsIn_Fc h⟩
 ·exact h
 ·exact h.elim
def wpG (P:Program) (r:Option Nat) (ops:Array Oper) (Q:Exit->Act->World->Prop) (o:Oper) (K:Act->World->Prop) (a:Act) (w:World):Prop :=
 if Region.wanted o (yielded ops a.tmps)=true then o.wpIn (Fc r) 0 P a w K Q else K (a.put o.dst undef) w
def GT (P:Program) (N:Nat) (ops:Array Oper) (o:Oper) (ts:List Nat) (F:List (Nat×AV)) (H:List (Nat×Ob)) (rd wr:List Nat) (v:AV) (H1:List (Nat×Ob)):Prop :=
 ∀ (rn:Option Nat) (S:Nat->Prop) (ρ:Rho) (a:Act) (w:World) (Q:Exit->Act->World->Prop) (K:Act->World->Prop),¬ LetsOut Q->a.tmps.size=N->FRs ts F a w S ρ->(∀ b,S b->b<w.heap.size) →
  HRi (fun i=>i∈rd\/i∈wr) w S ρ H->(∀ i,i∈wr->get H i=none->ρ i=none) →
  (∀ cv w' S' ρ',VR w' S' ρ' v cv->HRi (fun i=>i∈rd\/i∈wr) w' S' ρ' H1 →
   Ext w S (JI ρ H fun i=>i∈rd\/i∈wr) ρ w' S' (JI ρ' H1 fun i=>i∈rd\/i∈wr) ρ' (fun i=>i∈wr/\get H i=none)->K (a.put o.dst cv) w')->wpG P rn ops Q o K a w
structure StepM (P:Program) (N:Nat) (ops:Array Oper) (o:Oper) (mo:MOper) (F:List (Nat×AV)) (H:List (Nat×Ob)) (rd wr:List Nat) (v:AV) (H1:List (Nat×Ob)):Prop where
 off:∀ i,i ∉ wr->get H1 i=get H i
 on:∀ i,i∈wr->(get H1 i).isSome=true
 gt:GT P N ops o mo.slots F H rd wr v H1
theorem QX {P:Program} {N:Nat} {ops:Array Oper} {o:Oper} {mo:MOper} (h:XQ P N ops o=some mo):QT P o.op=some mo.op/\o.dst=mo.dst/\dstOK N mo.dst=true/\mo.pre=preOf o ∧
  ((o.guard=none/\mo.guard=none)\/∃ j g want,o.guard=some (j,want)/\(ops[j]?).bind (·.dst)=some g/\mo.guard=some (g,want)):=by
 unfold XQ at h
 split at h
 ·cases h
 ·rename_i m hm
  split at h
  ·rename_i hd
   split at h
   ·rename_i hg
    injection h with h; subst h
    exact ⟨hm,rfl,hd,rfl,.inl ⟨hg,rfl⟩⟩
   ·rename_i j want hg
    split at h
    ·rename_i g hgd
     injection h with h; subst h
     exact ⟨hm,rfl,hd,rfl,.inr ⟨j,g,want,hg,hgd,rfl⟩⟩
    ·cases h
  ·cases h
theorem yielded_bool {ops:Array Oper} {j g:Nat} {a:Act} (h:(ops[j]?).bind (·.dst)=some g) {b:Bool} (hv:a.tmps.getD g undef = .bool b):yielded ops a.tmps j=some b:=by
 unfold yielded
 rw [h]
 by_cases hg:g<a.tmps.size
 ·have:a.tmps[g]?=some (.bool b):=by rw [getD_some hg,hv]
  simp [this]
 ·simp [undef,hg] at hv
theorem yielded_und {ops:Array Oper} {j g:Nat} {a:Act} (h:(ops[j]?).bind (·.dst)=some g) (hv:a.tmps.getD g undef=undef):yielded ops a.tmps j=none:=by
 unfold yielded
 rw [h]
 by_cases hg:g<a.tmps.size
 ·have:a.tmps[g]?=some undef:=by rw [getD_some hg,hv]
  simp [this,undef]
 ·simp [hg]
section
variable {P:Program} {N:Nat} {ops:Array Oper} {o:Oper} {mo:MOper} {F:List (Nat×AV)} {H:List (Nat×Ob)}
theorem compOp_nd {op:Op} {m:MOp} (h:QT P op=some m):∀ c,op ≠ .defer c:=fun c e=>by subst e; simp [QT] at h
theorem stepM_op (hc:XQ P N ops o=some mo) {K:AV->List Nat->List Nat->List (Nat×Ob)->Prop} {d:Nat} (h:mev F H d K mo.op)
  (hg:mo.guard=none\/∃ g want,mo.guard=some (g,want)/\get F g=some (.bool want)):∃ v rd wr H1,K v rd wr H1/\StepM P N ops o mo F H rd wr v H1:=by
 obtain ⟨e1,_,_,_,e5⟩:=QX hc
 obtain ⟨v,rd,wr,H1,hK,hoff,hon,hop⟩:=mev_found e1 h
 refine ⟨v,rd,wr,H1,hK,hoff,hon,fun rn S ρ a w Q K' hout hN hF hS hH hnew hK'=>?_⟩
 have hw:Region.wanted o (yielded ops a.tmps)=true:=by
  rcases e5 with ⟨g1,_⟩ | ⟨j,g,want,g1,g2,g3⟩
  ·simp [Region.wanted,g1]
  ·rcases hg with hg | ⟨g',want',hg,hgv⟩
   ·rw [g3] at hg; cases hg
   ·rw [g3] at hg
    simp only [Option.some.injEq,Prod.mk.injEq] at hg
    obtain ⟨rfl,rfl⟩:=hg
    have hv:=(hF g (by simp [MOper.slots,g3]) _ hgv).bool_inv
    simp [Region.wanted,g1,yielded_bool g2 hv]
 unfold wpG
 rw [if_pos hw]
 refine wpIn_of_wp (compOp_nd e1) ((hop S ρ a w Q K' (fun t ht v hv=>hF t (by simp [MOper.slots,ht]) v hv) hS hH hnew hK').resolve_right fun h=>hout h.2)
theorem stepM_skip (hc:XQ P N ops o=some mo) {g:Nat} {want:Bool} (hg:mo.guard=some (g,want)) (hv:get F g=some (.bool (!want))\/get F g=some .und):StepM P N ops o mo F H [] [] .und H:=by
 obtain ⟨_,_,_,_,e5⟩:=QX hc
 refine ⟨fun _ _=>rfl,fun _ h=>(by cases h),fun rn S ρ a w Q K' hout hN hF hS hH hnew hK'=>?_⟩
 have hw:Region.wanted o (yielded ops a.tmps)=false:=by
  rcases e5 with ⟨_,g3⟩ | ⟨j,g',want',g1,g2,g3⟩
  ·rw [g3] at hg; cases hg
  ·rw [g3] at hg
   simp only [Option.some.injEq,Prod.mk.injEq] at hg
   obtain ⟨rfl,rfl⟩:=hg
   rcases hv with hv | hv
   ·have:=(hF g' (by simp [MOper.slots,g3]) _ hv).bool_inv
    rw [Region.wanted,g1]
    simp only [yielded_bool g2 this]
    cases want' <;> rfl
   ·have:=(hF g' (by simp [MOper.slots,g3]) _ hv).und_inv
    rw [Region.wanted,g1]
    simp only [yielded_und g2 this]
    rfl
 unfold wpG
 rw [if_neg (by rw [hw]; simp)]
 exact hK' undef w S ρ (.cl .und) hH (Ext.refl _ _ _ _ _ hS)
structure FRN (N:Nat) (w:World) (S:Nat->Prop) (ρ:Rho) (f:Nat->Option AV) (a:Act):Prop where
 size:a.tmps.size=N
 at_:∀ t v,f t=some v->VR w S ρ v (a.tmps.getD t undef)
theorem HRF.cells_ne {w:World} {S:Nat->Prop} {ρ:Rho} {h:Nat->Option Ob} (hh:HRF w S ρ h) {i:Nat} {ob:Ob} (hi:h i=some ob) (hl:ob.live=true) {b z cap:Nat} (hr:ρ i=some (some b,z,cap)):¬ S b/\b<w.heap.size:=by
 obtain ⟨bk,z1,c1,q1,q2⟩:=hh.at_.ob i ob trivial hi
 rw [hr] at q1
 injection q1 with q1
 obtain ⟨rfl,rfl,rfl⟩:some b=bk/\z=z1/\cap=c1:=by simpa using q1
 cases ob with
 | dead=>cases hl
 | glob g0 cs0=>cases hl
 | cells e1 z1 els1 fl1 =>
  obtain ⟨_,q3,_,C,q4,_⟩:=q2
  exact ⟨q3,(Array.getElem?_eq_some_iff.1 q4).1⟩
 | lp r1 Fl1 =>
  obtain ⟨b1,e1,q3,q4,_⟩:=q2
  injection e1 with e1; subst e1
  exact ⟨q3,(Array.getElem?_eq_some_iff.1 q4).1⟩
 | fm kvs =>
  obtain ⟨b1,es,clk,e1,q3,q4,_⟩:=q2
  injection e1 with e1; subst e1
  exact ⟨q3,(Array.getElem?_eq_some_iff.1 q4).1⟩
 | mset ks =>
  obtain ⟨b1,es,clk,e1,q3,q4,_⟩:=q2
  injection e1 with e1; subst e1
  exact ⟨q3,(Array.getElem?_eq_some_iff.1 q4).1⟩
theorem frame_step {rd wr:List Nat} {H1:List (Nat×Ob)} {w w':World} {S S':Nat->Prop} {ρ ρ':Rho} {h:Nat->Option Ob} (hh:HRF w S ρ h) (hag:∀ i,i∈rd\/i∈wr->get H i=h i)
  (hoff:∀ i,i ∉ wr->get H1 i=get H i) (hon:∀ i,i∈wr->(get H1 i).isSome=true) (hpost:HRi (fun i=>i∈rd\/i∈wr) w' S' ρ' H1)
  (hext:Ext w S (JI ρ H fun i=>i∈rd\/i∈wr) ρ w' S' (JI ρ' H1 fun i=>i∈rd\/i∈wr) ρ' (fun i=>i∈wr/\get H i=none)) :
  HRF w' S' ρ' (fun i=>if i∈wr then get H1 i else h i)/\Ext w S (LiveF ρ h fun _=>True) ρ w' S' (LiveF ρ' (fun i=>if i∈wr then get H1 i else h i) fun _=>True) ρ' (fun i=>h i=none) ∧
   (∀ v c,VR w S ρ v c->VR w' S' ρ' v c):=by
 have hsame:∀ i,i∈rd->i ∉ wr->get H1 i=h i:=fun i h1 h2=>(hoff i h2).trans (hag i (.inl h1))
 have hdisS:∀ b,S b->¬ JI ρ H (fun i=>i∈rd\/i∈wr) b:=fun b hs ⟨i,ob,z,cap,hI,hg,hl,hr⟩=>by
  rw [hag i hI] at hg
  exact (hh.cells_ne hg hl hr).1 hs
 have hcell:=hext.cells hdisS
 have hρ:∀ i,¬ (i∈wr/\get H i=none)->ρ' i=ρ i:=hext.rho
 have hρx:∀ i x,ρ i=some x->ρ' i=some x:=fun i x hx=>by
  rw [hρ i fun ⟨h1,h2⟩=>by rw [hag i (.inr h1)] at h2; rw [hh.dom i h2] at hx; cases hx]; exact hx
 have hold:∀ i,¬ (i∈rd\/i∈wr)->ρ' i=ρ i:=fun i hi=>hρ i fun ⟨h1,_⟩=>hi (.inr h1)
 -- the other objects' blocks are not touched
 have far:∀ i ob b z cap,¬ (i∈rd\/i∈wr)->h i=some ob->ob.live=true->ρ i=some (some b,z,cap)->¬ JI ρ H (fun i=>i∈rd\/i∈wr) b:=fun i ob b z cap hi hg hl hr ⟨k,ob',z',cap',hI,hg',hl',hr'⟩=>by
  rw [hag k hI] at hg'
  exact hh.at_.dis i k ob ob' b z z' cap cap' trivial trivial (fun e=>hi (by rw [e]; exact hI)) hg hg' hl hl' hr hr'
 have touched:∀ i ob,(i∈rd\/i∈wr)->(if i∈wr then get H1 i else h i)=some ob->get H1 i=some ob:=fun i ob hi hg=>by
  by_cases hw:i∈wr
  ·rwa [if_pos hw] at hg
  ·rw [if_neg hw] at hg
   rw [hsame i (hi.resolve_right hw) hw]; exact hg
 have untouched:∀ i ob,¬ (i∈rd\/i∈wr)->(if i∈wr then get H1 i else h i)=some ob->h i=some ob:=fun i ob hi hg=>by
  rwa [if_neg fun hw=>hi (.inr hw)] at hg
 have liveI:∀ b,JI ρ' H1 (fun i=>i∈rd\/i∈wr) b->JI ρ H (fun i=>i∈rd\/i∈wr) b\/w.heap.size<=b:=hext.own
 have mixed:∀ i k oi ok b z1 z2 c1 c2,(i∈rd\/i∈wr)->¬ (k∈rd\/k∈wr)->get H1 i=some oi->h k=some ok->oi.live=true->ok.live=true->ρ' i=some (some b,z1,c1)->ρ' k=some (some b,z2,c2)->False :=
  fun i k oi ok b z1 z2 c1 c2 hi hk hgi hgk hli hlk hri hrk=>by
   rw [hold k hk] at hrk
   rcases liveI b ⟨i,oi,z1,c1,hi,hgi,hli,hri⟩ with h1 | h1
   ·exact far k ok b z2 c2 hk hgk hlk hrk h1
   ·have:=(hh.cells_ne hgk hlk hrk).2; omega
 refine ⟨⟨hext.size,fun i hi=>?_,fun i ob _ hg=>?_,fun i k oi ok b z1 z2 c1 c2 _ _ hne hgi hgk hli hlk hri hrk=>?_⟩,⟨hext.keep.mono fun b hb=>?_,hext.sub,fun b hb=>(hext.fresh b hb).imp id fun h=>h.imp (fun ⟨i,ob,z,cap,hI,hg,hl,hr⟩=>⟨i,ob,z,cap,trivial,by rw [← hag i hI]; exact hg,hl,hr⟩) id,hext.size,fun b hb=>?_,fun i hi=>hρ i fun ⟨h1,h2⟩=>hi (by rw [hag i (.inr h1)] at h2; exact h2)⟩,
  fun v c hv=>hv.mono hext.sub hcell hρx⟩
 ·by_cases hw:i∈wr
  ·have:=hon i hw
   rw [if_pos hw] at hi
   rw [hi] at this; cases this
  ·rw [if_neg hw] at hi
   rw [hρ i fun ⟨h1,_⟩=>hw h1]; exact hh.dom i hi
 ·by_cases hI:i∈rd\/i∈wr
  ·exact hpost.ob i ob hI (touched i ob hI hg)
  ·have hg':=untouched i ob hI hg
   obtain ⟨bk,z,cap,q1,q2⟩:=hh.at_.ob i ob trivial hg'
   refine ⟨bk,z,cap,by rw [hold i hI]; exact q1,q2.mono hext.sub hcell hρx fun b hb hl=>?_⟩
   subst hb
   obtain ⟨hnS,hlt⟩:=hh.cells_ne hg' hl q1
   refine ⟨hext.keep.block b hlt (far i ob b z cap hI hg' hl q1),fun hs=>?_⟩
   rcases hext.fresh b hs with h1 | h1 | h1
   ·exact hnS h1
   ·exact far i ob b z cap hI hg' hl q1 h1
   ·omega
 ·by_cases hI:i∈rd\/i∈wr
  ·have gi:=touched i oi hI hgi
   by_cases hK:k∈rd\/k∈wr
   ·exact hpost.dis i k oi ok b z1 z2 c1 c2 hI hK hne gi (touched k ok hK hgk) hli hlk hri hrk
   ·exact mixed i k oi ok b z1 z2 c1 c2 hI hK gi (untouched k ok hK hgk) hli hlk hri hrk
  ·have gi:=untouched i oi hI hgi
   by_cases hK:k∈rd\/k∈wr
   ·exact mixed k i ok oi b z2 z1 c2 c1 hK hI (touched k ok hK hgk) gi hlk hli hrk hri
   ·rw [hold i hI] at hri
    rw [hold k hK] at hrk
    exact hh.at_.dis i k oi ok b z1 z2 c1 c2 trivial trivial hne gi (untouched k ok hK hgk) hli hlk hri hrk
 ·obtain ⟨i,ob,z,cap,hI,hg,hl,hr⟩:=hb
  exact ⟨i,ob,z,cap,trivial,by rw [← hag i hI]; exact hg,hl,hr⟩
 ·obtain ⟨i,ob,z,cap,_,hg,hl,hr⟩:=hb
  by_cases hI:i∈rd\/i∈wr
  ·rcases liveI b ⟨i,ob,z,cap,hI,touched i ob hI hg,hl,hr⟩ with ⟨k,ob',z',cap',hK,hg',hl',hr'⟩ | h1
   ·exact .inl ⟨k,ob',z',cap',trivial,by rw [← hag k hK]; exact hg',hl',hr'⟩
   ·exact .inr h1
  ·rw [hold i hI] at hr
   exact .inl ⟨i,ob,z,cap,trivial,untouched i ob hI hg,hl,hr⟩
theorem put_getD {a:Act} {d t:Nat} {v:Value} (hd:d<a.tmps.size):(a.put (some d) v).tmps.getD t undef=if t=d then v else a.tmps.getD t undef:=by
 simp only [Act.put,Array.getD_eq_getD_getElem?,Array.getElem?_setIfInBounds]
 by_cases h:d=t
 ·subst h; simp [hd]
 ·simp [h,Ne.symm h]
theorem put_size (a:Act) (d:Option Nat) (v:Value):(a.put d v).tmps.size=a.tmps.size:=by
 cases d <;> simp [Act.put]
theorem put_defers (a:Act) (d:Option Nat) (v:Value):(a.put d v).defers=a.defers:=by
 cases d <;> rfl
theorem FRN.put {w w':World} {S S':Nat->Prop} {ρ ρ':Rho} {f:Nat->Option AV} {a:Act} (h:FRN N w S ρ f a) (hm:∀ v c,VR w S ρ v c->VR w' S' ρ' v c) {dst:Option Nat} (hd:dstOK N dst=true) {v:AV} {cv:Value} (hv:VR w' S' ρ' v cv) :
  FRN N w' S' ρ' (fun t=>if some t=dst then some v else f t) (a.put dst cv):=by
 refine ⟨by rw [put_size]; exact h.size,fun t u hu=>?_⟩
 cases dst with
 | none=>simp at hu; exact hm _ _ (h.at_ t u hu)
 | some d =>
  have hdN:d<a.tmps.size:=by rw [h.size]; simpa [dstOK] using hd
  rw [put_getD hdN]
  by_cases htd:t=d
  ·subst htd; simp at hu; subst hu; rw [if_pos rfl]; exact hv
  ·simp [htd] at hu; rw [if_neg htd]; exact hm _ _ (h.at_ t u hu)
end
end Go.Proofs.YthfhaoogcpfboaaGreat
namespace Go.Proofs.YthfhaoogcpfboaaGreat
open Go.RowKit
abbrev Fp:=List Nat×List Nat
inductive SeqM (P:Program) (N:Nat) (ops:Array Oper):List Oper->List MOper->List (Nat×AV)->List (Nat×Ob)->List Fp->List (Nat×AV)->List (Nat×Ob)->Prop where
 | nil (F:List (Nat×AV)) (H:List (Nat×Ob)):SeqM P N ops [] [] F H [] F H
 | cons {o:Oper} {mo:MOper} {l:List Oper} {ml:List MOper} {F:List (Nat×AV)} {H:List (Nat×Ob)} {rd wr:List Nat} {v:AV} {H1:List (Nat×Ob)} {fps:List Fp} {F':List (Nat×AV)} {H':List (Nat×Ob)}
   (hc:XQ P N ops o=some mo) (hs:StepM P N ops o mo F H rd wr v H1) (h:SeqM P N ops l ml (putF F mo.dst v) H1 fps F' H'):SeqM P N ops (o::l) (mo::ml) F H ((rd,wr)::fps) F' H'
abbrev All:Nat->Prop:=fun _=>True
abbrev ExtH (w:World) (S:Nat->Prop) (ρ:Rho) (h:Nat->Option Ob) (w':World) (S':Nat->Prop) (ρ':Rho) (h':Nat->Option Ob):Prop :=
 Ext w S (LiveF ρ h All) ρ w' S' (LiveF ρ' h' All) ρ' (fun i=>h i=none)
theorem ExtH.trans {w w1 w2:World} {S S1 S2:Nat->Prop} {ρ ρ1 ρ2:Rho} {h h1 h2:Nat->Option Ob} (e1:ExtH w S ρ h w1 S1 ρ1 h1) (e2:ExtH w1 S1 ρ1 h1 w2 S2 ρ2 h2) (hn:∀ i,h1 i=none->h i=none) :
  ExtH w S ρ h w2 S2 ρ2 h2 :=
 ⟨e1.keep.trans e2.keep e1.own,fun b hb=>e2.sub b (e1.sub b hb),fun b hb=>(e2.fresh b hb).elim (fun h=>e1.fresh b h) fun h=>h.elim (fun h=>.inr (e1.own b h)) fun h=>.inr (.inr (Nat.le_trans e1.keep.size h)),e2.size,
  fun b hb=>(e2.own b hb).elim (fun h=>e1.own b h) fun h=>.inr (Nat.le_trans e1.keep.size h),fun i hi=>(e2.rho i fun h=>hi (hn i h)).trans (e1.rho i hi)⟩
theorem get_putF {F:List (Nat×AV)} {dst:Option Nat} {v:AV} (t:Nat):get (putF F dst v) t=if some t=dst then some v else get F t:=by
 cases dst with
 | none=>simp [putF]
 | some d =>
  simp only [putF,get]
  by_cases h:d=t
  ·subst h; simp
  ·simp [h,Ne.symm h]
theorem StepM.get_ {P:Program} {N:Nat} {ops:Array Oper} {o:Oper} {mo:MOper} {F:List (Nat×AV)} {H H1:List (Nat×Ob)} {rd wr:List Nat} {v:AV} (h:StepM P N ops o mo F H rd wr v H1) :
  (fun i=>if i∈wr then get H1 i else get H i)=get H1:=by
 funext i
 by_cases hw:i∈wr
 ·rw [if_pos hw]
 ·rw [if_neg hw,h.off i hw]
theorem step_conf {P:Program} {N:Nat} {ops:Array Oper} {o:Oper} {mo:MOper} {F:List (Nat×AV)} {H H1:List (Nat×Ob)} {rd wr:List Nat} {v:AV} (hc:XQ P N ops o=some mo)
  (hs:StepM P N ops o mo F H rd wr v H1) {S:Nat->Prop} {ρ:Rho} {a:Act} {w:World} {f:Nat->Option AV} {h:Nat->Option Ob} (hF:FRN N w S ρ f a) (hH:HRF w S ρ h)
  (hf:∀ t,t∈mo.slots->get F t=f t) (hh:∀ i,i∈rd\/i∈wr->get H i=h i) {Q:Exit->Act->World->Prop} {K:Act->World->Prop} {r:Option Nat} (hout:¬ LetsOut Q)
  (hK:∀ S' ρ' a' w',FRN N w' S' ρ' (fun t=>if some t=mo.dst then some v else f t) a'->a'.defers=a.defers->HRF w' S' ρ' (fun i=>if i∈wr then get H1 i else h i) →
   ExtH w S ρ h w' S' ρ' (fun i=>if i∈wr then get H1 i else h i)->K a' w'):wpG P r ops Q o K a w:=by
 obtain ⟨_,hd,hdok,_⟩:=QX hc
 refine hs.gt r S ρ a w Q K hout hF.size (fun t ht u hu=>hF.at_ t u (by rw [← hf t ht]; exact hu)) hH.hS
  ⟨fun i ob hi hg=>hH.at_.ob i ob trivial (by rw [← hh i hi]; exact hg),fun i j oi oj b z z' c c' hi hj hne hgi hgj=>hH.at_.dis i j oi oj b z z' c c' trivial trivial hne (by rw [← hh i hi]; exact hgi) (by rw [← hh j hj]; exact hgj)⟩
  (fun i hi hn=>hH.dom i (by rw [← hh i (.inr hi)]; exact hn)) fun cv w' S' ρ' hv hpost hext=>?_
 obtain ⟨g1,g2,g3⟩:=frame_step hH hh hs.off hs.on hpost hext
 rw [hd]
 exact hK S' ρ' _ w' (hF.put g3 hdok hv) (put_defers _ _ _) g1 g2
theorem wpListIn_G {P:Program} {r:Option Nat} {ops:Array Oper} {Q:Exit->Act->World->Prop} {o:Oper} {l:List Oper} {a:Act} {w:World} (h:wpG P r ops Q o (wpListIn (Fc r) 0 P ops Q l) a w):wpListIn (Fc r) 0 P ops Q (o::l) a w:=by
 unfold wpG at h
 unfold wpListIn
 split
 ·rename_i hw; rw [if_pos hw] at h; exact h
 ·rename_i hw; rw [if_neg hw] at h; exact ⟨fun f _=>Fc_fn r f,h⟩
theorem seq_wpList {P:Program} {N:Nat} {ops:Array Oper} {l:List Oper} {ml:List MOper} {F F':List (Nat×AV)} {H H':List (Nat×Ob)} {fps:List Fp} (hs:SeqM P N ops l ml F H fps F' H') :
  ∀ {r:Option Nat} {S:Nat->Prop} {ρ:Rho} {a:Act} {w:World} {Q:Exit->Act->World->Prop},¬ LetsOut Q->FRN N w S ρ (get F) a->HRF w S ρ (get H) →
  (∀ S' ρ' a' w',FRN N w' S' ρ' (get F') a'->a'.defers=a.defers->HRF w' S' ρ' (get H')->ExtH w S ρ (get H) w' S' ρ' (get H')->Q .normal a' w')->wpListIn (Fc r) 0 P ops Q l a w:=by
 induction hs with
 | nil F H =>
  intro r S ρ a w Q hout hF hH hQ
  exact hQ S ρ a w hF rfl hH (Ext.refl _ _ _ _ _ hH.hS)
 | cons hc hs _ ih =>
  intro r S ρ a w Q hout hF hH hQ
  rename_i o mo l ml F H rd wr v H1 fps F' H' hrest
  refine wpListIn_G ?_
  refine step_conf hc hs hF hH (fun _ _=>rfl) (fun _ _=>rfl) hout fun S1 ρ1 a1 w1 hF1 hd1 hH1 hE1=>?_
  rw [hs.get_] at hH1 hE1
  have hF1':FRN N w1 S1 ρ1 (get (putF F mo.dst v)) a1:=by
   have e:get (putF F mo.dst v)=fun t=>if some t=mo.dst then some v else get F t:=funext get_putF
   rw [e]; exact hF1
  refine ih hout hF1' hH1 fun S2 ρ2 a2 w2 hF2 hd2 hH2 hE2=>hQ S2 ρ2 a2 w2 hF2 (hd2.trans hd1) hH2 (ExtH.trans hE1 hE2 fun i hi=>?_)
  by_cases hw:i∈wr
  ·have:=hs.on i hw; rw [hi] at this; cases this
  ·rw [← hs.off i hw]; exact hi
def maskStep (acc:List Nat) (p:List Nat):Nat:=p.foldl (fun s k=>s ||| (2^k ||| acc.getD k 0)) 0
def masks:List (List Nat)->List Nat->List Nat
 | [],acc=>acc
 | p::ps,acc=>masks ps (acc++[maskStep acc p])
def overlap (a b:List Nat):Bool:=a.any fun x=>b.contains x
def JH (x y:MOper×Fp):Bool :=
 (match x.1.dst with
  | some d=>y.1.slots.contains d||y.1.dst == some d
  | none=>false) ||
 (match y.1.dst with
  | some d=>x.1.slots.contains d
  | none=>false)||overlap x.2.2 (y.2.1++y.2.2)||overlap x.2.1 y.2.2
def okRow (ms:List Nat) (L:List (MOper×Fp)) (j:Nat) (y:MOper×Fp):Bool :=
 y.1.pre.all (fun k=>decide (k<j))&&(L.zipIdx.all fun (x,k) => !(decide (k<j)) || !JH x y||(ms.getD j 0).testBit k)
def okDraw (L:List (MOper×Fp)):Bool :=
 let ms:=masks (L.map (·.1.pre)) []
 L.zipIdx.all fun (y,j)=>okRow ms L j y
theorem maskStep_spec {E:Nat->Prop} {acc:List Nat} (hacc:∀ k b,(acc.getD k 0).testBit b=true->E k->E b):∀ (p:List Nat) (s:Nat),(∀ b,s.testBit b=true->E b)->(∀ k,k∈p->E k) →
  ∀ b,(p.foldl (fun s k=>s ||| (2^k ||| acc.getD k 0)) s).testBit b=true->E b
 | [],s,hs,_,b,hb=>hs b hb
 | k::p,s,hs,hp,b,hb=>by
  simp only [List.foldl_cons] at hb
  refine maskStep_spec hacc p _ (fun c hc=>?_) (fun x hx=>hp x (by simp [hx])) b hb
  simp only [Nat.testBit_or,Bool.or_eq_true] at hc
  rcases hc with hc | hc | hc
  ·exact hs c hc
  ·have:c=k:=by
    rw [Nat.testBit_two_pow] at hc; have hc2:k=c:=by simpa using hc
    exact hc2.symm
   subst this; exact hp c (by simp)
  ·exact hacc k c hc (hp k (by simp))
theorem masks_spec {E:Nat->Prop}:∀ (ps:List (List Nat)) (acc:List Nat),(∀ k b,(acc.getD k 0).testBit b=true->E k->E b) →
  (∀ j p,ps[j]?=some p->E (acc.length+j)->∀ k,k∈p->E k)->∀ j b,((masks ps acc).getD j 0).testBit b=true->E j->E b
 | [],acc,hacc,_,j,b,hb,hE=>hacc j b hb hE
 | p::ps,acc,hacc,hp,j,b,hb,hE=>by
  simp only [masks] at hb
  refine masks_spec ps (acc++[maskStep acc p]) (fun k c hc hk=>?_) (fun i q hq hE k hk=>?_) j b hb hE
  ·by_cases hkl:k<acc.length
   ·rw [List.getD_eq_getElem?_getD,List.getElem?_append_left hkl,← List.getD_eq_getElem?_getD] at hc
    exact hacc k c hc hk
   ·by_cases hke:k=acc.length
    ·subst hke
     have e:(acc++[maskStep acc p]).getD acc.length 0=maskStep acc p:=by simp [List.getD]
     rw [e] at hc
     exact maskStep_spec hacc p 0 (fun b hb=>by simp at hb) (hp 0 p rfl (by simpa using hk)) c hc
    ·have e:(acc++[maskStep acc p]).getD k 0=0:=by
      rw [List.getD_eq_getElem?_getD,List.getElem?_eq_none (by simp; omega)]; rfl
     rw [e] at hc; simp at hc
  ·refine hp (i+1) q (by simpa using hq) ?_ k hk
   have:(acc++[maskStep acc p]).length+i=acc.length+(i+1):=by simp; omega
   rwa [this] at hE
end Go.Proofs.YthfhaoogcpfboaaGreat
namespace Go.Proofs.YthfhaoogcpfboaaGreat
open Go.RowKit
structure RunD (P:Program) (N:Nat) (ops:Array Oper) (l:List Oper) (L:List (MOper×Fp)) (Fs:Nat->List (Nat×AV)) (Hs:Nat->List (Nat×Ob)) (vs:Nat->AV):Prop where
 len:L.length=l.length
 step:∀ j y,L[j]?=some y->∃ o,l[j]?=some o/\XQ P N ops o=some y.1/\StepM P N ops o y.1 (Fs j) (Hs j) y.2.1 y.2.2 (vs j) (Hs (j+1))/\Fs (j+1)=putF (Fs j) y.1.dst (vs j)
theorem SeqM.data {P:Program} {N:Nat} {ops:Array Oper} {l:List Oper} {ml:List MOper} {F F':List (Nat×AV)} {H H':List (Nat×Ob)} {fps:List Fp} (hs:SeqM P N ops l ml F H fps F' H') :
  ml.length=l.length/\fps.length=l.length/\∃ Fs Hs vs,Fs 0=F/\Hs 0=H/\Fs l.length=F'/\Hs l.length=H'/\RunD P N ops l (ml.zip fps) Fs Hs vs:=by
 induction hs with
 | nil F H=>exact ⟨rfl,rfl,fun _=>F,fun _=>H,fun _=>.und,rfl,rfl,rfl,rfl,rfl,fun j y h=>by simp at h⟩
 | cons hc hs _ ih =>
  rename_i o mo l ml F H rd wr v H1 fps F' H' hrest
  obtain ⟨e1,e2,Fs,Hs,vs,f0,h0,fn,hn,hr⟩:=ih
  refine ⟨by simp [e1],by simp [e2],fun j=>match j with | 0=>F | j+1=>Fs j,fun j=>match j with | 0=>H | j+1=>Hs j,fun j=>match j with | 0=>v | j+1=>vs j,rfl,rfl,fn,hn,by simp [e1,e2],fun j y hj=>?_⟩
  cases j with
  | zero =>
   simp at hj; subst hj
   exact ⟨o,rfl,hc,by simpa [h0] using hs,by simpa using f0⟩
  | succ j =>
   obtain ⟨o',g1,g2,g3,g4⟩:=hr.step j y (by simpa using hj)
   exact ⟨o',by simpa using g1,g2,by simpa using g3,by simpa using g4⟩
section
variable {P:Program} {N:Nat} {ops:Array Oper} {l:List Oper} {L:List (MOper×Fp)} {Fs:Nat->List (Nat×AV)} {Hs:Nat->List (Nat×Ob)} {vs:Nat->AV}
theorem RunD.at_ (hr:RunD P N ops l L Fs Hs vs) {j:Nat} (hj:j<l.length):∃ y,L[j]?=some y:=⟨L[j]'(by rw [hr.len]; exact hj),List.getElem?_eq_getElem _⟩
theorem RunD.slot_same (hr:RunD P N ops l L Fs Hs vs) {t a:Nat}:∀ (n:Nat),a+n<=l.length->(∀ k y,a<=k->k<a+n->L[k]?=some y->y.1.dst≠some t)->get (Fs (a+n)) t=get (Fs a) t
 | 0,_,_=>rfl
 | n+1,hn,h=>by
  obtain ⟨y,hy⟩:=hr.at_ (j:=a+n) (by omega)
  obtain ⟨o,_,_,_,e⟩:=hr.step _ y hy
  rw [show a+(n+1)=a+n+1 by omega,e,get_putF,if_neg fun h'=>h (a+n) y (by omega) (by omega) hy h'.symm]
  exact RunD.slot_same hr n (by omega) fun k y h1 h2=>h k y h1 (by omega)
theorem RunD.name_same (hr:RunD P N ops l L Fs Hs vs) {i a:Nat}:∀ (n:Nat),a+n<=l.length->(∀ k y,a<=k->k<a+n->L[k]?=some y->i ∉ y.2.2)->get (Hs (a+n)) i=get (Hs a) i
 | 0,_,_=>rfl
 | n+1,hn,h=>by
  obtain ⟨y,hy⟩:=hr.at_ (j:=a+n) (by omega)
  obtain ⟨o,_,_,hs,_⟩:=hr.step _ y hy
  rw [show a+(n+1)=a+n+1 by omega,hs.off i (h (a+n) y (by omega) (by omega) hy)]
  exact RunD.name_same hr n (by omega) fun k y h1 h2=>h k y h1 (by omega)
theorem okDraw_pair (h:okDraw L=true) {j k:Nat} {x y:MOper×Fp} (hk:L[k]?=some x) (hj:L[j]?=some y) (hkj:k<j) (hc:JH x y=true) :
  ((masks (L.map (·.1.pre)) []).getD j 0).testBit k=true:=by
 unfold okDraw at h
 have h1:=List.all_eq_true.1 h (y,j) (by rw [List.mk_mem_zipIdx_iff_getElem?]; exact hj)
 simp only [okRow,Bool.and_eq_true] at h1
 have h2:=List.all_eq_true.1 h1.2 (x,k) (by rw [List.mk_mem_zipIdx_iff_getElem?]; exact hk)
 simpa [hkj,hc] using h2
theorem okDraw_pre (h:okDraw L=true) {j:Nat} {y:MOper×Fp} (hj:L[j]?=some y):∀ k,k∈y.1.pre->k<j:=by
 unfold okDraw at h
 have h1:=List.all_eq_true.1 h (y,j) (by rw [List.mk_mem_zipIdx_iff_getElem?]; exact hj)
 simp only [okRow,Bool.and_eq_true] at h1
 intro k hk
 simpa using List.all_eq_true.1 h1.1 k hk
def Shut (L:List (MOper×Fp)) (E:Nat->Prop):Prop:=∀ j y,L[j]?=some y->E j->∀ k,k∈y.1.pre->E k
theorem Shut.mask {E:Nat->Prop} (h:Shut L E) {j b:Nat} (hb:((masks (L.map (·.1.pre)) []).getD j 0).testBit b=true) (hE:E j):E b:=by
 refine masks_spec (E:=E) (L.map (·.1.pre)) [] (fun k c hc _=>by simp at hc) (fun i p hp hE k hk=>?_) j b hb hE
 rw [List.getElem?_map] at hp
 cases hy:L[i]? with
 | none=>rw [hy] at hp; cases hp
 | some y =>
  rw [hy] at hp
  injection hp with hp; subst hp
  exact h i y hy (by simpa using hE) k hk
theorem Shut.before {E:Nat->Prop} (h:Shut L E) (hok:okDraw L=true) {j k:Nat} {x y:MOper×Fp} (hk:L[k]?=some x) (hj:L[j]?=some y) (hkj:k<j) (hc:JH x y=true) (hE:E j):E k :=
 h.mask (okDraw_pair hok hk hj hkj hc) hE
structure InvD (l:List Oper) (L:List (MOper×Fp)) (Fs:Nat->List (Nat×AV)) (Hs:Nat->List (Nat×Ob)) (E:Nat->Prop) (f:Nat->Option AV) (h:Nat->Option Ob):Prop where
 shut:Shut L E
 slot:∀ t m,m<=l.length->(∀ k y,L[k]?=some y->y.1.dst=some t->(E k ↔ k<m))->f t=get (Fs m) t
 name:∀ i m,m<=l.length->(∀ k y,L[k]?=some y->i∈y.2.2->(E k ↔ k<m))->h i=get (Hs m) i
theorem overlap_mem {a b:List Nat} {x:Nat} (h1:x∈a) (h2:x∈b):overlap a b=true:=List.any_eq_true.2 ⟨x,h1,by simpa using h2⟩
theorem clashes_dr {x y:MOper×Fp} {t:Nat} (h1:x.1.dst=some t) (h2:t∈y.1.slots\/y.1.dst=some t):JH x y=true:=by
 unfold JH
 rw [h1]
 rcases h2 with h2 | h2 <;> simp [h2]
theorem clashes_rd {x y:MOper×Fp} {t:Nat} (h1:t∈x.1.slots) (h2:y.1.dst=some t):JH x y=true:=by
 unfold JH
 rw [h2]
 simp [h1]
theorem clashes_w {x y:MOper×Fp} {i:Nat} (h1:i∈x.2.2) (h2:i∈y.2.1\/i∈y.2.2):JH x y=true:=by
 unfold JH
 have:=overlap_mem (b:=y.2.1++y.2.2) h1 (List.mem_append.2 h2)
 simp [this]
theorem clashes_r {x y:MOper×Fp} {i:Nat} (h1:i∈x.2.1) (h2:i∈y.2.2):JH x y=true:=by
 unfold JH
 have:=overlap_mem h1 h2
 simp [this]
theorem InvD.ready {E:Nat->Prop} {f:Nat->Option AV} {h:Nat->Option Ob} (inv:InvD l L Fs Hs E f h) (hok:okDraw L=true) {j:Nat} {y:MOper×Fp} (hj:L[j]?=some y) (hjl:j<l.length) (hE:¬ E j)
  (hpre:∀ k,k∈y.1.pre->E k):(∀ t,t∈y.1.slots->f t=get (Fs j) t)/\∀ i,i∈y.2.1\/i∈y.2.2->h i=get (Hs j) i:=by
 -- E with j is shut,too
 have hshut:Shut L (fun k=>E k\/k=j):=fun k x hx hk q hq=>by
  rcases hk with hk | rfl
  ·exact .inl (inv.shut k x hx hk q hq)
  ·rw [hj] at hx; injection hx with hx; subst hx; exact .inl (hpre q hq)
 have before:∀ k x,L[k]?=some x->k<j->JH x y=true->E k:=fun k x hx hkj hc=>(hshut.before hok hx hj hkj hc (.inr rfl)).resolve_right (by omega)
 have after:∀ k x,L[k]?=some x->j<k->JH y x=true->¬ E k:=fun k x hx hjk hc hk=>hE (inv.shut.before hok hj hx hjk hc hk)
 refine ⟨fun t ht=>inv.slot t j (by omega) fun k x hx hd=>?_,fun i hi=>inv.name i j (by omega) fun k x hx hd=>?_⟩
 ·rcases Nat.lt_trichotomy k j with h1 | h1 | h1
  ·exact ⟨fun _=>h1,fun _=>before k x hx h1 (clashes_dr hd (.inl ht))⟩
  ·subst h1; exact ⟨fun h=>absurd h hE,fun h=>absurd h (by omega)⟩
  ·exact ⟨fun h=>absurd h (after k x hx h1 (clashes_rd ht hd)),fun h=>by omega⟩
 ·rcases Nat.lt_trichotomy k j with h1 | h1 | h1
  ·exact ⟨fun _=>h1,fun _=>before k x hx h1 (clashes_w hd hi)⟩
  ·subst h1; exact ⟨fun h=>absurd h hE,fun h=>absurd h (by omega)⟩
  ·refine ⟨fun h=>absurd h (after k x hx h1 ?_),fun h=>by omega⟩
   rcases hi with hi | hi
   ·exact clashes_r hi hd
   ·exact clashes_w hi (.inr hd)
theorem InvD.step (hr:RunD P N ops l L Fs Hs vs) {E E':Nat->Prop} {f:Nat->Option AV} {h:Nat->Option Ob} (inv:InvD l L Fs Hs E f h) (hok:okDraw L=true) {j:Nat} {y:MOper×Fp} (hj:L[j]?=some y) (hjl:j<l.length) (hE:¬ E j)
  (hpre:∀ k,k∈y.1.pre->E k) (hE':∀ k,E' k ↔ E k\/k=j) :
  InvD l L Fs Hs E' (fun t=>if some t=y.1.dst then some (vs j) else f t) (fun i=>if i∈y.2.2 then get (Hs (j+1)) i else h i):=by
 have hshut:Shut L E':=fun k x hx hk q hq=>by
  rw [hE'] at hk ⊢
  rcases hk with hk | rfl
  ·exact .inl (inv.shut k x hx hk q hq)
  ·rw [hj] at hx; injection hx with hx; subst hx; exact .inl (hpre q hq)
 have after:∀ k x,L[k]?=some x->j<k->JH y x=true->¬ E k:=fun k x hx hjk hc hk=>hE (inv.shut.before hok hj hx hjk hc hk)
 have hjE':E' j:=(hE' j).2 (.inr rfl)
 obtain ⟨o,_,_,hs,hF⟩:=hr.step j y hj
 refine ⟨hshut,fun t m hm hw=>?_,fun i m hm hw=>?_⟩
 ·by_cases ht:some t=y.1.dst
  ·rw [if_pos ht]
   have hjm:j<m:=(hw j y hj ht.symm).1 hjE'
   have:=hr.slot_same (t:=t) (a:=j+1) (m-(j+1)) (by omega) fun k x h1 h2 hx hd=>by
    have hEk:E' k:=(hw k x hx hd).2 (by omega)
    rw [hE'] at hEk
    rcases hEk with hEk | hEk
    ·exact after k x hx (by omega) (clashes_dr ht.symm (.inr hd)) hEk
    ·omega
   rw [show j+1+(m-(j+1))=m by omega] at this
   rw [this,hF,get_putF,if_pos ht]
  ·rw [if_neg ht]
   refine inv.slot t m hm fun k x hx hd=>?_
   rw [← hw k x hx hd,hE']
   refine ⟨.inl,fun h=>h.resolve_right fun e=>?_⟩
   subst e
   rw [hj] at hx; injection hx with hx; subst hx; exact ht hd.symm
 ·by_cases hi:i∈y.2.2
  ·rw [if_pos hi]
   have hjm:j<m:=(hw j y hj hi).1 hjE'
   have:=hr.name_same (i:=i) (a:=j+1) (m-(j+1)) (by omega) fun k x h1 h2 hx hd=>by
    have hEk:E' k:=(hw k x hx hd).2 (by omega)
    rw [hE'] at hEk
    rcases hEk with hEk | hEk
    ·exact after k x hx (by omega) (clashes_w hi (.inr hd)) hEk
    ·omega
   rw [show j+1+(m-(j+1))=m by omega] at this
   exact this.symm
  ·rw [if_neg hi]
   refine inv.name i m hm fun k x hx hd=>?_
   rw [← hw k x hx hd,hE']
   refine ⟨.inl,fun h=>h.resolve_right fun e=>?_⟩
   subst e
   rw [hj] at hx; injection hx with hx; subst hx; exact hi hd
theorem unlisted_false {listed:Array Bool} {i:Nat} (h:listed.getD i true=false):listed.getD i false=false:=by
 by_cases hi:i<listed.size
 ·simp [hi] at h ⊢; exact h
 ·simp [hi]
theorem unlisted_true {listed:Array Bool} {i:Nat} (hi:i<listed.size) (h:listed.getD i false=false):listed.getD i true=false:=by
 simp [hi] at h ⊢; exact h
theorem JF (m j:Nat):(Array.replicate m false).getD j false=false:=by
 by_cases h:j<m <;> simp [h]
def left (n:Nat) (listed:Array Bool):Nat:=((List.range n).filter fun k => !listed.getD k true).length
theorem left_set {n j:Nat} {listed:Array Bool} (hj:j<n) (h:listed.getD j true=false):left n (listed.setIfInBounds j true)<left n listed:=by
 unfold left
 have hjl:j<listed.size:=by
  rcases Nat.lt_or_ge j listed.size with h' | h'
  ·exact h'
  ·simp [Array.getElem?_eq_none h'] at h
 have e:∀ k,(!(listed.setIfInBounds j true).getD k true)=((!listed.getD k true)&&decide (k≠j)):=fun k=>by
  by_cases hk:j=k
  ·subst hk; simp [hjl]
  ·rw [getD_set_ne true hk]; simp [Ne.symm hk]
 have e2:(List.range n).filter (fun k => !(listed.setIfInBounds j true).getD k true)=((List.range n).filter fun k => !listed.getD k true).filter (fun k=>decide (k≠j)):=by
  rw [List.filter_filter]
  congr 1
  funext k
  rw [e k,Bool.and_comm]
 rw [e2]
 refine List.length_filter_lt_length_iff_exists.2 ⟨j,?_,by simp⟩
 rw [List.mem_filter]
 exact ⟨List.mem_range.2 hj,by rw [h]; rfl⟩
def wpOpC (P:Program) (r:Option Nat) (ops:Array Oper) (Q:Exit->Act->World->Prop) (i:Nat) (K:Act->World->Prop) (a:Act) (w:World):Prop :=
 match ops[i]? with
 | none=>K a w
 | some o=>wpG P r ops Q o K a w
def wpAnyC (P:Program) (r:Option Nat) (md:Region.Mode) (ops:Array Oper) (Q:Exit->Act->World->Prop):Nat->Array Bool->Act->World->Prop
 | 0,listed,a,w=>Region.ready md ops listed=[]/\Q .normal a w
 | fuel+1,listed,a,w =>
  (Region.ready md ops listed=[]->Q .normal a w) ∧
  ∀ i∈Region.ready md ops listed,wpOpC P r ops Q i (wpAnyC P r md ops Q fuel (listed.setIfInBounds i true)) a w
theorem wpG_mono {P:Program} {r:Option Nat} {ops:Array Oper} {Q:Exit->Act->World->Prop} {o:Oper} {K K':Act->World->Prop} (h:∀ a w,K a w->K' a w) {a:Act} {w:World} (hh:wpG P r ops Q o K a w):wpG P r ops Q o K' a w:=by
 unfold wpG at hh ⊢
 split
 ·rename_i hw; rw [if_pos hw] at hh; exact Oper.wpIn_mono h hh
 ·rename_i hw; rw [if_neg hw] at hh; exact h _ _ hh
theorem wpOpsC_cons {P:Program} {r:Option Nat} {ops:Array Oper} {Q:Exit->Act->World->Prop} {i:Nat} {l:List Nat} {a:Act} {w:World} (h:wpOpC P r ops Q i (wpOpsIn (Fc r) 0 P ops Q l) a w):wpOpsIn (Fc r) 0 P ops Q (i::l) a w:=by
 unfold wpOpC at h
 unfold wpOpsIn
 cases ho:ops[i]? with
 | none=>rw [ho] at h; exact h
 | some o =>
  rw [ho] at h
  change wpG P r ops Q o _ a w at h
  unfold wpG at h
  show if _ then _ else _
  split
  ·rename_i hw; rw [if_pos hw] at h; exact h
  ·rename_i hw; rw [if_neg hw] at h; exact ⟨fun f _=>Fc_fn r f,h⟩
theorem wpOpC_mono {P:Program} {r:Option Nat} {ops:Array Oper} {Q:Exit->Act->World->Prop} {i:Nat} {K K':Act->World->Prop} (h:∀ a w,K a w->K' a w) {a:Act} {w:World} (hh:wpOpC P r ops Q i K a w):wpOpC P r ops Q i K' a w:=by
 unfold wpOpC at hh ⊢
 cases ho:ops[i]? with
 | none=>rw [ho] at hh; exact h _ _ hh
 | some o=>rw [ho] at hh; exact wpG_mono h hh
theorem wpAnyC_sound {P:Program} {r:Option Nat} {md:Region.Mode} {ops:Array Oper} {Q:Exit->Act->World->Prop}:∀ (fuel t:Nat) (listed:Array Bool) (a:Act) (w:World),wpAnyC P r md ops Q fuel listed a w →
  wpOpsIn (Fc r) 0 P ops Q (Region.linearise.go md ops fuel t listed []) a w:=by
 intro fuel
 induction fuel with
 | zero=>intro t listed a w h; simpa [Region.linearise.go,wpOpsIn] using h.2
 | succ fuel ih =>
  intro t listed a w h
  obtain ⟨h₀,h₁⟩:=h
  simp only [Region.linearise.go]
  change wpOpsIn (Fc r) 0 P ops Q (match (Region.ready md ops listed)[t % (Region.ready md ops listed).length]? with
   | some i=>Region.linearise.go md ops fuel (t / (Region.ready md ops listed).length) (listed.setIfInBounds i true) [i]
   | none=>[].reverse) a w
  cases hi:(Region.ready md ops listed)[t % (Region.ready md ops listed).length]? with
  | none =>
   have hnil:Region.ready md ops listed=[]:=by
    cases hr:Region.ready md ops listed with
    | nil=>rfl
    | cons x xs =>
     rw [hr] at hi
     have hlt:t % (x::xs).length<(x::xs).length:=Nat.mod_lt _ (by simp)
     simp at hi
     simp at hlt
     omega
   simpa [wpOpsIn] using h₀ hnil
  | some i =>
   simp only []
   rw [linearise_go_acc,List.reverse_singleton,List.singleton_append]
   exact wpOpsC_cons (wpOpC_mono (fun a w=>ih _ _ a w) (h₁ i (List.mem_of_getElem? hi)))
theorem wpIn_region_any {P:Program} {r:Option Nat} {ops:Array Oper} {Q:Exit->Act->World->Prop} {id:Nat} {a:Act} {w:World} (hm:P.follows .mixedOrders=true)
  (h:wpAnyC P r .any ops Q ops.size (Array.replicate ops.size false) a { w with drawn:=w.drawn+1 }):(Code.region id ops true).wpIn (Fc r) 0 P Q a w :=
 wpIn_region_draw fun t=>by
  simp only [Region.schedule,hm,Bool.true_or,if_true]
  exact wpAnyC_sound ops.size t _ a _ h
theorem draw_sound (hr:RunD P N ops l L Fs Hs vs) (hok:okDraw L=true) (hl:l=ops.toList) {Q:Exit->Act->World->Prop} {r:Option Nat} (hout:¬ LetsOut Q) :
  ∀ (fuel:Nat) (listed:Array Bool) (a:Act) (w:World) (S:Nat->Prop) (ρ:Rho) (f:Nat->Option AV) (h:Nat->Option Ob),listed.size=l.length->left l.length listed<=fuel →
   InvD l L Fs Hs (fun k=>listed.getD k false=true) f h->FRN N w S ρ f a->HRF w S ρ h →
   (∀ S' ρ' a' w',FRN N w' S' ρ' (get (Fs l.length)) a'->a'.defers=a.defers->HRF w' S' ρ' (get (Hs l.length))->ExtH w S ρ h w' S' ρ' (get (Hs l.length))->Q .normal a' w') →
   wpAnyC P r .any ops Q fuel listed a w:=by
 have hsz:ops.size=l.length:=by rw [hl]; simp
 have hget:∀ j o,l[j]?=some o->ops[j]?=some o:=fun j o h=>by rw [hl,Array.getElem?_toList] at h; exact h
 -- when none is ready,all have run
 have allrun:∀ (listed:Array Bool),listed.size=l.length->Region.ready .any ops listed=[]->∀ k,k<l.length->listed.getD k false=true:=by
  intro listed hls hre k
  induction k using Nat.strongRecOn with
  | _ k ih =>
   intro hk
   obtain ⟨y,hy⟩:=hr.at_ hk
   obtain ⟨o,g1,g2,_⟩:=hr.step k y hy
   obtain ⟨_,_,_,hp,_⟩:=QX g2
   cases hb:listed.getD k false with
   | true=>rfl
   | false =>
    have hmem:k∈Region.ready .any ops listed:=mem_ready.2 ⟨unlisted_true (by omega) hb,o,hget k o g1,fun e he hbd=>by
     have hin:e.on∈y.1.pre:=by
      rw [hp]; unfold preOf
      exact List.mem_map.2 ⟨e,List.mem_filter.2 ⟨by simpa using he,hbd⟩,rfl⟩
     have hlt:=okDraw_pre hok hy e.on hin
     exact ih e.on hlt (by omega)⟩
    rw [hre] at hmem; cases hmem
 have finish:∀ (listed:Array Bool) (a:Act) (w:World) (S:Nat->Prop) (ρ:Rho) (f:Nat->Option AV) (h:Nat->Option Ob),listed.size=l.length →
   InvD l L Fs Hs (fun k=>listed.getD k false=true) f h->FRN N w S ρ f a->HRF w S ρ h →
   (∀ S' ρ' a' w',FRN N w' S' ρ' (get (Fs l.length)) a'->a'.defers=a.defers->HRF w' S' ρ' (get (Hs l.length))->ExtH w S ρ h w' S' ρ' (get (Hs l.length))->Q .normal a' w') →
   Region.ready .any ops listed=[]->Q .normal a w:=by
  intro listed a w S ρ f h hls inv hF hH hQ hre
  have hall:=allrun listed hls hre
  have lt:∀ k y,L[k]?=some y->k<l.length:=fun k y hy=>by rw [← hr.len]; exact (List.getElem?_eq_some_iff.1 hy).1
  have ef:f=get (Fs l.length):=funext fun t=>inv.slot t l.length (Nat.le_refl _) fun k y hy _=>⟨fun _=>lt k y hy,fun hk=>hall k hk⟩
  have eh:h=get (Hs l.length):=funext fun i=>inv.name i l.length (Nat.le_refl _) fun k y hy _=>⟨fun _=>lt k y hy,fun hk=>hall k hk⟩
  rw [ef] at hF
  rw [eh] at hH hQ
  exact hQ S ρ a w hF rfl hH (Ext.refl _ _ _ _ _ hH.hS)
 intro fuel
 induction fuel with
 | zero =>
  intro listed a w S ρ f h hls hlft inv hF hH hQ
  have hre:Region.ready .any ops listed=[]:=by
   cases hR:Region.ready .any ops listed with
   | nil=>rfl
   | cons j rest =>
    have hj:j∈Region.ready .any ops listed:=by rw [hR]; simp
    obtain ⟨hun,o,ho,_⟩:=mem_ready.1 hj
    have hjl:j<l.length:=by rw [← hsz]; exact (Array.getElem?_eq_some_iff.1 ho).1
    have:=left_set hjl hun
    omega
  exact ⟨hre,finish listed a w S ρ f h hls inv hF hH hQ hre⟩
 | succ fuel ih =>
  intro listed a w S ρ f h hls hlft inv hF hH hQ
  refine ⟨finish listed a w S ρ f h hls inv hF hH hQ,fun j hj=>?_⟩
  obtain ⟨hun,o,ho,hall⟩:=mem_ready.1 hj
  have hjl:j<l.length:=by rw [← hsz]; exact (Array.getElem?_eq_some_iff.1 ho).1
  obtain ⟨y,hy⟩:=hr.at_ hjl
  obtain ⟨o',g1,g2,g3,g4⟩:=hr.step j y hy
  have hoo:o'=o:=by have:=hget j o' g1; rw [ho] at this; injection this with this; exact this.symm
  subst hoo
  obtain ⟨_,_,_,hp,_⟩:=QX g2
  have hpre:∀ k,k∈y.1.pre->listed.getD k false=true:=fun k hk=>by
   rw [hp] at hk
   unfold preOf at hk
   obtain ⟨e,he,rfl⟩:=List.mem_map.1 hk
   obtain ⟨he1,he2⟩:=List.mem_filter.1 he
   exact hall e (by simpa using he1) he2
  have hnE:¬ listed.getD j false=true:=by rw [unlisted_false hun]; simp
  obtain ⟨r1,r2⟩:=inv.ready hok hy hjl hnE hpre
  unfold wpOpC
  rw [ho]
  refine step_conf g2 g3 hF hH (fun t ht=>(r1 t ht).symm) (fun i hi=>(r2 i hi).symm) hout fun S1 ρ1 a1 w1 hF1 hd1 hH1 hE1=>?_
  refine ih _ a1 w1 S1 ρ1 _ _ (by simp [hls]) ?_ (inv.step hr hok hy hjl hnE hpre fun k=>?_) hF1 hH1 fun S2 ρ2 a2 w2 hF2 hd2 hH2 hE2=>hQ S2 ρ2 a2 w2 hF2 (hd2.trans hd1) hH2 (ExtH.trans hE1 hE2 fun i hi=>?_)
  ·have:=left_set hjl hun; omega
  ·by_cases hk:j=k
   ·subst hk
    have:j<listed.size:=by omega
    simp [this]
   ·rw [getD_set_ne false hk]
    exact ⟨.inl,fun h=>h.resolve_right (Ne.symm hk)⟩
  ·by_cases hw:i∈y.2.2
   ·rw [if_pos hw] at hi
    have:=g3.on i hw; rw [hi] at this; cases this
   ·rwa [if_neg hw] at hi
end
end Go.Proofs.YthfhaoogcpfboaaGreat
namespace Go.Proofs.YthfhaoogcpfboaaGreat
open Go.RowKit
inductive MC where
 | skip
 | reg (ops:List MOper) (draw:Bool)
 | seq (a b:MC)
 | cond (x:Arg) (a b:MC)
 | block (id:Nat) (c:MC)
 | loop (c:MC)
 | exit (id:Nat)
 | ret
 | rfunc (g:Arg) (ps:List Nat) (a b:MC)
def compOpers (P:Program) (N:Nat) (ops:Array Oper):List Oper->Option (List MOper)
 | []=>some []
 | o::l=>match XQ P N ops o,compOpers P N ops l with
  | some m,some ms=>some (m::ms)
  | _,_=>none
def XW (P:Program) (N:Nat):Code->Option MC
 | .skip=>some .skip
 | .region _ ops draw=>match compOpers P N ops ops.toList with
  | some ms=>some (.reg ms draw)
  | none=>none
 | .seq a b=>match XW P N a,XW P N b with
  | some x,some y=>some (.seq x y)
  | _,_=>none
 | .cond c a b=>match Q1 c,XW P N a,XW P N b with
  | some r,some x,some y=>some (.cond r x y)
  | _,_,_=>none
 | .block id c=>match XW P N c with
  | some x=>some (.block id x)
  | none=>none
 | .loop c=>match XW P N c with
  | some x=>some (.loop x)
  | none=>none
 | .exit id=>some (.exit id)
 | .ret=>some .ret
 | .rangeFunc g ps a b=>match Q1 g,XW P N a,XW P N b with
  | some r,some x,some y=>if ps.toList.all (fun p=>decide (p<N))=true then some (.rfunc r ps.toList x y) else none
  | _,_,_=>none
 | _=>none
structure ExtZ (Z:List Nat) (w:World) (S:Nat->Prop) (ρ:Rho) (h:Nat->Option Ob) (w':World) (S':Nat->Prop) (ρ':Rho) (h':Nat->Option Ob):Prop where
 keep:Keep w w' (LiveF ρ h All)
 sub:∀ b,S b->S' b
 fresh:∀ b,S' b->S b\/LiveF ρ h All b\/w.heap.size<=b
 own:∀ b,LiveF ρ' h' All b->LiveF ρ h All b\/w.heap.size<=b
 rho:∀ i,i∈Z->ρ' i=ρ i
theorem ExtZ.refl (Z:List Nat) (w:World) (S:Nat->Prop) (ρ:Rho) (h:Nat->Option Ob):ExtZ Z w S ρ h w S ρ h:=⟨Keep.refl _ _,fun _ h=>h,fun _ h=>.inl h,fun _ h=>.inl h,fun _ _=>rfl⟩
theorem ExtZ.trans {Z:List Nat} {w w1 w2:World} {S S1 S2:Nat->Prop} {ρ ρ1 ρ2:Rho} {h h1 h2:Nat->Option Ob} (e1:ExtZ Z w S ρ h w1 S1 ρ1 h1) (e2:ExtZ Z w1 S1 ρ1 h1 w2 S2 ρ2 h2):ExtZ Z w S ρ h w2 S2 ρ2 h2 :=
 ⟨e1.keep.trans e2.keep e1.own,fun b hb=>e2.sub b (e1.sub b hb),
  fun b hb=>(e2.fresh b hb).elim (fun h=>e1.fresh b h) fun h=>h.elim (fun h=>.inr (e1.own b h)) fun h=>.inr (.inr (Nat.le_trans e1.keep.size h)),
  fun b hb=>(e2.own b hb).elim (fun h=>e1.own b h) fun h=>.inr (Nat.le_trans e1.keep.size h),fun i hi=>(e2.rho i hi).trans (e1.rho i hi)⟩
def Zok (Z:List Nat) (H:List (Nat×Ob)):Prop:=∀ i,i∈Z->get H i≠none
theorem ExtH.z {Z:List Nat} {w w':World} {S S':Nat->Prop} {ρ ρ':Rho} {h h':Nat->Option Ob} (e:ExtH w S ρ h w' S' ρ' h') (hz:∀ i,i∈Z->h i≠none):ExtZ Z w S ρ h w' S' ρ' h' :=
 ⟨e.keep,e.sub,e.fresh,e.own,fun i hi=>e.rho i (hz i hi)⟩
abbrev Fr:=List (Nat×AV)
abbrev Hp:=List (Nat×Ob)
abbrev Post:=Exit->Fr->Hp->Prop
def Marks (ds:List Deferred) (w:World) (live:Nat->Prop):Prop :=
 ∃ Ds:List Nat,ds=Ds.map (fun D=>{ target:=.collected D,args := #[] })/\Ds.Nodup/\∀ D∈Ds,w.heap[D]?=some (.deferred (some []))/\¬ live D
theorem Marks.nil (w:World) (live:Nat->Prop):Marks [] w live:=⟨[],rfl,List.nodup_nil,fun D h=>by cases h⟩
theorem Marks.keep {ds:List Deferred} {w w':World} {live live':Nat->Prop} (h:Marks ds w live) (hk:Keep w w' live) (ho:∀ b,live' b->live b\/w.heap.size<=b):Marks ds w' live':=by
 obtain ⟨Ds,h1,h2,h3⟩:=h
 refine ⟨Ds,h1,h2,fun D hD=>?_⟩
 obtain ⟨q1,q2⟩:=h3 D hD
 have hlt:=(Array.getElem?_eq_some_iff.1 q1).1
 exact ⟨(hk.block D hlt q2).trans q1,fun hl=>(ho D hl).elim q2 (by omega)⟩
structure Conf (N:Nat) (Z:List Nat) (F:Fr) (H:Hp) (S:Nat->Prop) (ρ:Rho) (a:Act) (w:World):Prop where
 fr:FRN N w S ρ (get F) a
 defers:Marks a.defers w (LiveF ρ (get H) All)
 hp:HRF w S ρ (get H)
 z:Zok Z H
def FreshD (ds:List Deferred) (w:World) (ds':List Deferred):Prop:=∀ d∈ds',d∈ds\/∃ D,d.target = .collected D/\w.heap.size<=D
theorem FreshD.refl (ds:List Deferred) (w:World):FreshD ds w ds:=fun d h=>.inl h
theorem FreshD.trans {ds ds1 ds2:List Deferred} {w w1:World} (h:FreshD ds w ds1) (h1:FreshD ds1 w1 ds2) (hw:w.heap.size<=w1.heap.size):FreshD ds w ds2:=fun d hd =>
 (h1 d hd).elim (fun q=>h d q) fun ⟨D,q1,q2⟩=>.inr ⟨D,q1,Nat.le_trans hw q2⟩
def Reach (N:Nat) (Z:List Nat) (Q:Post) (S:Nat->Prop) (ρ:Rho) (H:Hp) (w:World) (ds:List Deferred) (e:Exit) (a':Act) (w':World):Prop :=
 (e ≠ .outgrown/\FreshD ds w a'.defers)/\∃ F' H' S' ρ',Q e F' H'/\Conf N Z F' H' S' ρ' a' w'/\ExtZ Z w S ρ (get H) w' S' ρ' (get H')
def AW (P:Program) (N:Nat) (Z:List Nat) (rn:Option Nat) (c:MC) (Q:Post) (F:Fr) (H:Hp):Prop :=
 ∀ code,XW P N code=some c->∀ S ρ a w,Conf N Z F H S ρ a w->code.wpIn (Fc rn) 0 P (Reach N Z Q S ρ H w a.defers) a w
def Weak (N:Nat) (Z:List Nat) (F:Fr) (H:Hp) (F0:Fr) (H0:Hp):Prop :=
 ∀ S ρ a w,Conf N Z F H S ρ a w->∃ S' ρ',Conf N Z F0 H0 S' ρ' a w/\ExtZ Z w S ρ (get H) w S' ρ' (get H0)
theorem Weak.refl (N:Nat) (Z:List Nat) (F:Fr) (H:Hp):Weak N Z F H F H:=fun S ρ a w h=>⟨S,ρ,h,ExtZ.refl _ _ _ _ _⟩
theorem Weak.trans {N:Nat} {Z:List Nat} {F F1 F2:Fr} {H H1 H2:Hp} (h1:Weak N Z F H F1 H1) (h2:Weak N Z F1 H1 F2 H2):Weak N Z F H F2 H2:=fun S ρ a w h=>by
 obtain ⟨S1,ρ1,c1,e1⟩:=h1 S ρ a w h
 obtain ⟨S2,ρ2,c2,e2⟩:=h2 S1 ρ1 a w c1
 exact ⟨S2,ρ2,c2,e1.trans e2⟩
theorem least_of {p:Nat->Prop} (h:∃ n,p n):∃ n,p n/\∀ m,p m->n<=m:=by
 obtain ⟨n,hn⟩:=h
 induction n using Nat.strongRecOn with
 | _ n ih =>
  by_cases hx:∃ m,m<n/\p m
  ·obtain ⟨m,hm,hp⟩:=hx
   exact ih m hm hp
  ·exact ⟨n,hn,fun m hm=>Nat.le_of_not_lt fun hlt=>hx ⟨m,hlt,hm⟩⟩
section rules
variable {P:Program} {N:Nat} {Z:List Nat} {rn:Option Nat} {Q:Post} {F:Fr} {H:Hp}
theorem Reach.noOut {S:Nat->Prop} {ρ:Rho} {w:World} {ds:List Deferred}:¬ LetsOut (Reach N Z Q S ρ H w ds):=fun ⟨_,_,h,_⟩=>h.1 rfl
theorem Reach.of {S S1:Nat->Prop} {ρ ρ1:Rho} {H1:Hp} {w w1:World} {e:Exit} {a':Act} {w':World} {ds ds1:List Deferred} (hf:FreshD ds w ds1) (he:ExtZ Z w S ρ (get H) w1 S1 ρ1 (get H1)) (h:Reach N Z Q S1 ρ1 H1 w1 ds1 e a' w'):Reach N Z Q S ρ H w ds e a' w':=by
 obtain ⟨ho,F',H',S',ρ',q,c,e⟩:=h
 exact ⟨⟨ho.1,hf.trans ho.2 he.keep.size⟩,F',H',S',ρ',q,c,he.trans e⟩
theorem aw_mono {c:MC} {Q':Post} (h:AW P N Z rn c Q F H) (hq:∀ e F' H',Q e F' H'->Q' e F' H'):AW P N Z rn c Q' F H:=fun code hc S ρ a w hcf =>
 wpIn_mono (h code hc S ρ a w hcf) fun e a' w' ⟨ho,F',H',S',ρ',q,r⟩=>⟨ho,F',H',S',ρ',hq _ _ _ q,r⟩
theorem QH {c:MC} {F0:Fr} {H0:Hp} (hw:Weak N Z F H F0 H0) (h:AW P N Z rn c Q F0 H0):AW P N Z rn c Q F H:=fun code hc S ρ a w hcf=>by
 obtain ⟨S1,ρ1,c1,e1⟩:=hw S ρ a w hcf
 exact wpIn_mono (h code hc S1 ρ1 a w c1) fun e a' w' hr=>hr.of (FreshD.refl _ _) e1
def WQ (N:Nat) (Z:List Nat) (Q:Post):Post:=fun e F H=>∃ F0 H0,Weak N Z F H F0 H0/\Q e F0 H0
theorem aw_post {c:MC} (h:AW P N Z rn c (WQ N Z Q) F H):AW P N Z rn c Q F H:=fun code hc S ρ a w hcf =>
 wpIn_mono (h code hc S ρ a w hcf) fun e a' w' ⟨ho,F',H',S',ρ',⟨F0,H0,hw,q⟩,cf,ex⟩=>by
  obtain ⟨S1,ρ1,c1,e1⟩:=hw S' ρ' a' w' cf
  exact ⟨ho,F0,H0,S1,ρ1,q,c1,ex.trans e1⟩
theorem aw_skip (h:Q .normal F H):AW P N Z rn .skip Q F H:=fun code hc S ρ a w hcf=>by
 cases code <;> simp [XW] at hc
 ·exact wpIn_skip ⟨⟨(fun e=>by cases e),FreshD.refl _ _⟩,F,H,S,ρ,h,hcf,ExtZ.refl _ _ _ _ _⟩
 all_goals (repeat' split at hc) <;> cases hc
theorem aw_exit {id:Nat} (h:Q (.exit id) F H):AW P N Z rn (.exit id) Q F H:=fun code hc S ρ a w hcf=>by
 cases code <;> simp [XW] at hc
 case exit i=>subst hc; exact wpIn_exit ⟨⟨(fun e=>by cases e),FreshD.refl _ _⟩,F,H,S,ρ,h,hcf,ExtZ.refl _ _ _ _ _⟩
 all_goals (repeat' split at hc) <;> cases hc
theorem aw_ret (h:Q .ret F H):AW P N Z rn .ret Q F H:=fun code hc S ρ a w hcf=>by
 cases code <;> simp [XW] at hc
 case ret=>exact wpIn_ret ⟨⟨(fun e=>by cases e),FreshD.refl _ _⟩,F,H,S,ρ,h,hcf,ExtZ.refl _ _ _ _ _⟩
 all_goals (repeat' split at hc) <;> cases hc
def Then (next:Fr->Hp->Prop) (Q:Post):Post
 | .normal,F,H=>next F H
 | e,F,H=>Q e F H
def InBlock (id:Nat) (Q:Post):Post
 | .exit i,F,H=>if i=id then Q .normal F H else Q (.exit i) F H
 | e,F,H=>Q e F H
theorem aw_seq {x y:MC} (h:AW P N Z rn x (Then (AW P N Z rn y Q) Q) F H):AW P N Z rn (.seq x y) Q F H:=fun code hc S ρ a w hcf=>by
 cases code <;> simp [XW] at hc
 case seq cx cy =>
  split at hc
  ·rename_i x' y' hx hy
   simp at hc
   obtain ⟨rfl,rfl⟩:=hc
   refine wpIn_seq (wpIn_mono (h cx hx S ρ a w hcf) fun e a' w' ⟨ho,F',H',S',ρ',q,cf,ex⟩=>?_)
   cases e <;> first | exact wpIn_mono (q cy hy S' ρ' a' w' cf) (fun _ _ _ hr=>hr.of ho.2 ex) | exact ⟨ho,F',H',S',ρ',q,cf,ex⟩
  ·cases hc
 all_goals (repeat' split at hc) <;> cases hc
theorem Qc {x:Arg} {y z:MC} {t:Bool} (ht:Qj F x=some (.bool t)) (h1:t=true->AW P N Z rn y Q F H) (h2:t=false->AW P N Z rn z Q F H):AW P N Z rn (.cond x y z) Q F H:=fun code hc S ρ a w hcf=>by
 cases code <;> simp [XW] at hc
 case cond cx cy cz =>
  split at hc
  ·rename_i x' y' z' hx hy hz
   simp at hc
   obtain ⟨rfl,rfl,rfl⟩:=hc
   have e:=(Qn hx (ts:=x'.slots) (fun t _ v hv=>hcf.fr.at_ t v hv) (fun _ h=>h) ht).bool_inv
   exact wpIn_cond_split e (fun e1=>h1 e1 cy hy S ρ a w hcf) fun e1=>h2 e1 cz hz S ρ a w hcf
  ·cases hc
 all_goals (repeat' split at hc) <;> cases hc
theorem aw_block {id:Nat} {x:MC} (h:AW P N Z rn x (InBlock id Q) F H):AW P N Z rn (.block id x) Q F H:=fun code hc S ρ a w hcf=>by
 cases code <;> simp [XW] at hc
 case block i cx =>
  split at hc
  ·rename_i x' hx
   simp at hc
   obtain ⟨rfl,rfl⟩:=hc
   refine wpIn_block (wpIn_mono (h cx hx S ρ a w hcf) fun e a' w' ⟨ho,F',H',S',ρ',q,cf,ex⟩=>?_)
   cases e with
   | exit k =>
    simp only [Exit.inBlock]
    simp only [InBlock] at q
    split
    ·rename_i hk; rw [if_pos hk] at q; exact ⟨⟨(fun e=>by cases e),ho.2⟩,F',H',S',ρ',q,cf,ex⟩
    ·rename_i hk; rw [if_neg hk] at q; exact ⟨ho,F',H',S',ρ',q,cf,ex⟩
   | _=>exact ⟨ho,F',H',S',ρ',q,cf,ex⟩
  ·cases hc
 all_goals (repeat' split at hc) <;> cases hc
theorem aw_loop {x:MC} (I:Nat->Fr->Hp->Prop) (n:Nat) (h0:I n F H)
  (round:∀ n F H,I n F H->AW P N Z rn x (Then (fun F' H'=>∃ m F0 H0,m<n/\Weak N Z F' H' F0 H0/\I m F0 H0) Q) F H):AW P N Z rn (.loop x) Q F H:=fun code hc S ρ a w hcf=>by
 cases code <;> simp [XW] at hc
 case loop cx =>
  split at hc
  ·rename_i x' hx
   simp at hc
   subst hc
   classical
   let J:Nat->Act->World->Prop:=fun m a' w'=>∃ F' H' S' ρ',I m F' H'/\Conf N Z F' H' S' ρ' a' w'/\ExtZ Z w S ρ (get H) w' S' ρ' (get H')/\FreshD a.defers w a'.defers
   let μ : Act->World->Nat:=fun a' w'=>if h:∃ m,J m a' w' then Classical.choose (least_of h) else 0
   refine wpIn_loop (fun a' w'=>∃ m,J m a' w') μ ⟨n,F,H,S,ρ,h0,hcf,ExtZ.refl _ _ _ _ _,FreshD.refl _ _⟩ fun a1 w1 hI=>?_
   have hμ : μ a1 w1=Classical.choose (least_of hI):=by simp only [μ]; rw [dif_pos hI]
   obtain ⟨F1,H1,S1,ρ1,i1,c1,e1,f1⟩:=(Classical.choose_spec (least_of hI)).1
   refine wpIn_mono (round (Classical.choose (least_of hI)) F1 H1 i1 cx hx S1 ρ1 a1 w1 c1) fun e a2 w2 ⟨ho,F2,H2,S2,ρ2,q,c2,e2⟩=>?_
   cases e with
   | normal =>
    obtain ⟨m,F3,H3,hm,hw,i3⟩:=q
    obtain ⟨S3,ρ3,c3,e3⟩:=hw S2 ρ2 a2 w2 c2
    have hj:J m a2 w2:=⟨F3,H3,S3,ρ3,i3,c3,e1.trans (e2.trans e3),f1.trans ho.2 e1.keep.size⟩
    refine ⟨⟨m,hj⟩,?_⟩
    have hle : μ a2 w2<=m:=by
     simp only [μ]
     rw [dif_pos ⟨m,hj⟩]
     exact (Classical.choose_spec (least_of ⟨m,hj⟩)).2 m hj
    rw [hμ]; omega
   | _=>exact ⟨⟨ho.1,f1.trans ho.2 e1.keep.size⟩,F2,H2,S2,ρ2,q,c2,e1.trans e2⟩
  ·cases hc
 all_goals (repeat' split at hc) <;> cases hc
def RS (P:Program) (N:Nat) (ml:List MOper) (F:Fr) (H:Hp) (K:List Fp->Fr->Hp->Prop):Prop :=
 ∀ ops l,compOpers P N ops l=some ml->∃ fps F' H',SeqM P N ops l ml F H fps F' H'/\K fps F' H'
theorem rs_nil {K:List Fp->Fr->Hp->Prop} (h:K [] F H):RS P N [] F H K:=fun ops l hl=>by
 cases l with
 | nil=>exact ⟨[],F,H,.nil F H,h⟩
 | cons o l=>simp only [compOpers] at hl; split at hl <;> cases hl
theorem rs_cons {mo:MOper} {ml:List MOper} {K:List Fp->Fr->Hp->Prop}
  (h:∀ ops o,XQ P N ops o=some mo->∃ v rd wr H1,StepM P N ops o mo F H rd wr v H1/\RS P N ml (putF F mo.dst v) H1 (fun fps=>K ((rd,wr)::fps))):RS P N (mo::ml) F H K:=fun ops l hl=>by
 cases l with
 | nil=>simp [compOpers] at hl
 | cons o l =>
  simp only [compOpers] at hl
  split at hl
  ·rename_i m ms hm hms
   injection hl with hl
   injection hl with h1 h2
   subst h1 h2
   obtain ⟨v,rd,wr,H1,hs,hr⟩:=h ops o hm
   obtain ⟨fps,F',H',q1,q2⟩:=hr ops l hms
   exact ⟨_,F',H',.cons hm hs q1,q2⟩
  ·cases hl
theorem aw_reg {ms:List MOper} (h:RS P N ms F H fun _ F' H'=>Zok Z H'->Q .normal F' H'):AW P N Z rn (.reg ms false) Q F H:=fun code hc S ρ a w hcf=>by
 cases code <;> simp [XW] at hc
 case region id ops draw =>
  split at hc
  ·rename_i ms' hms
   simp at hc
   obtain ⟨rfl,rfl⟩:=hc
   obtain ⟨fps,F',H',hs,hk⟩:=h ops _ hms
   refine wpIn_region_list (seq_wpList hs Reach.noOut hcf.fr hcf.hp fun S' ρ' a' w' hF hd hH hE=>?_)
   have hz:Zok Z H':=fun i hi h0=>by
    have h1:ρ' i=none:=hH.dom i h0
    have h2:=hE.rho i (hcf.z i hi)
    cases hg:get H i with
    | none=>exact hcf.z i hi hg
    | some ob =>
     obtain ⟨bk,z,cap,q,_⟩:=hcf.hp.at_.ob i ob trivial hg
     rw [h1,q] at h2; cases h2
   exact ⟨⟨(fun e=>by cases e),by rw [hd]; exact FreshD.refl _ _⟩,F',H',S',ρ',hk hz,⟨hF,by rw [hd]; exact hcf.defers.keep hE.keep hE.own,hH,hz⟩,hE.z hcf.z⟩
  ·cases hc
 all_goals (repeat' split at hc) <;> cases hc
theorem Conf.drew {S:Nat->Prop} {ρ:Rho} {a:Act} {w:World} (h:Conf N Z F H S ρ a w):Conf N Z F H S ρ a w.drew :=
 ⟨⟨h.fr.size,fun t v hv=>VR.mono (w:=w) (w':=w.drew) (S':=S) (ρ':=ρ) (fun _ h=>h) (fun _ _ _ h=>h) (fun _ _ h=>h) (h.fr.at_ t v hv)⟩,h.defers,
  ⟨h.hp.hS,h.hp.dom,⟨fun i ob hi hg=>by
   obtain ⟨bk,z,cap,q1,q2⟩:=h.hp.at_.ob i ob hi hg
   refine ⟨bk,z,cap,q1,OR.mono (w:=w) (w':=w.drew) (S':=S) (ρ':=ρ) (fun _ h=>h) (fun _ _ _ h=>h) (fun _ _ h=>h) (fun b hb hl=>⟨rfl,?_⟩) q2⟩
   subst hb
   exact (h.hp.cells_ne hg hl q1).1,h.hp.at_.dis⟩⟩,h.z⟩
theorem aw_draw (hm:P.follows .mixedOrders=true) {ms:List MOper} (h:RS P N ms F H fun fps F' H'=>okDraw (ms.zip fps)=true/\(Zok Z H'->Q .normal F' H')):AW P N Z rn (.reg ms true) Q F H:=fun code hc S ρ a w hcf=>by
 cases code <;> simp [XW] at hc
 case region id ops draw =>
  split at hc
  ·rename_i ms' hms
   simp at hc
   obtain ⟨rfl,rfl⟩:=hc
   obtain ⟨fps,F',H',hs,hok,hk⟩:=h ops _ hms
   obtain ⟨e1,e2,Fs,Hs,vs,f0,h0,fn,hn,hr⟩:=hs.data
   have hcd:=hcf.drew
   refine wpIn_region_any hm ?_
   have hsz:ops.size=ops.toList.length:=by simp
   rw [hsz]
   refine draw_sound hr hok rfl Reach.noOut ops.toList.length _ a w.drew S ρ (get F) (get H) (by simp) ?_ ⟨fun j y _ h=>?_,fun t m _ hw=>?_,fun i m _ hw=>?_⟩ hcd.fr hcd.hp fun S' ρ' a' w' hF hd hH hE=>?_
   ·unfold left; exact Nat.le_trans (List.length_filter_le _ _) (by simp)
   ·have h':(Array.replicate ops.toList.length false).getD j false=true:=by simpa using h
    rw [JF] at h'; cases h'
   ·have:get (Fs m) t=get (Fs 0) t:=by
     have:=hr.slot_same (t:=t) (a:=0) m (by simpa using ‹m<=_›) fun k y _ h2 hy hd=>by
      have h':=(hw k y hy hd).2 (by omega)
      rw [JF] at h'; cases h'
     simpa using this
    rw [this,f0]
   ·have:get (Hs m) i=get (Hs 0) i:=by
     have:=hr.name_same (i:=i) (a:=0) m (by simpa using ‹m<=_›) fun k y _ h2 hy hd=>by
      have h':=(hw k y hy hd).2 (by omega)
      rw [JF] at h'; cases h'
     simpa using this
    rw [this,h0]
   ·rw [fn] at hF
    rw [hn] at hH hE
    have hz:Zok Z H':=fun i hi h0=>by
     have h1:ρ' i=none:=hH.dom i h0
     have h2:=hE.rho i (hcf.z i hi)
     cases hg:get H i with
     | none=>exact hcf.z i hi hg
     | some ob =>
      obtain ⟨bk,z,cap,q,_⟩:=hcf.hp.at_.ob i ob trivial hg
      rw [h1,q] at h2; cases h2
    have hE':ExtZ Z w S ρ (get H) w' S' ρ' (get H'):=by
     have e:=hE.z hcf.z
     exact ⟨⟨e.keep.os,e.keep.tape,e.keep.output,e.keep.size,e.keep.block⟩,e.sub,e.fresh,e.own,e.rho⟩
    exact ⟨⟨(fun e=>by cases e),by rw [hd]; exact FreshD.refl _ _⟩,F',H',S',ρ',hk hz,⟨hF,by rw [hd]; exact hcf.defers.keep hE'.keep hE'.own,hH,hz⟩,hE'⟩
  ·cases hc
 all_goals (repeat' split at hc) <;> cases hc
end rules
end Go.Proofs.YthfhaoogcpfboaaGreat
namespace Go.Proofs.YthfhaoogcpfboaaGreat
open Go.RowKit
mutual
def QY (D:List Nat):AV->Bool
 | .ptr i _ _=>D.contains i
 | .sl i _ _=>D.contains i
 | .sa i _ _ _=>D.contains i
 | .mp i=>D.contains i
 | .yl i=>D.contains i
 | .bnd _ v=>QY D v
 | .fn _ caps=>XX D caps
 | .agg cs=>XX D cs
 | .tup cs=>XX D cs
 | _=>true
def XX (D:List Nat):List AV->Bool
 | []=>true
 | v::l=>QY D v&&XX D l
end
theorem Xs {D:List Nat}:∀ {l:List AV} {v:AV},XX D l=true->v∈l->QY D v=true
 | u::l,v,h,hv=>by
  simp only [XX,Bool.and_eq_true] at h
  rcases List.mem_cons.1 hv with rfl | hv
  ·exact h.1
  ·exact Xs h.2 hv
theorem VR.scope {w:World} {S:Nat->Prop} {ρ ρ':Rho} {v:AV} {c:Value} (h:VR w S ρ v c) {D:List Nat} (hs:QY D v=true) (hρ:∀ i,i∈D->ρ' i=ρ i):VR w S ρ' v c:=by
 induction h with
 | cl h=>exact .cl h
 | ptr i j o b z cap h=>exact .ptr i j o b z cap ((hρ i (by simpa [QY] using hs)).trans h)
 | sl i j n b z cap cap' h hc hn=>exact .sl i j n b z cap cap' ((hρ i (by simpa [QY] using hs)).trans h) hc hn
 | sl0 i z h=>exact .sl0 i z ((hρ i (by simpa [QY] using hs)).trans h)
 | sa i j o n b z cap cap' h hn=>exact .sa i j o n b z cap cap' ((hρ i (by simpa [QY] using hs)).trans h) hn
 | fn f caps C hn _ ih =>
  simp only [QY] at hs
  exact .fn f caps C hn fun j v hj=>ih j v hj (Xs hs (List.mem_of_getElem? hj))
 | agg cs C hn h1 _ ih =>
  simp only [QY] at hs
  exact .agg cs C hn h1 fun j v hj=>ih j v hj (Xs hs (List.mem_of_getElem? hj))
 | tup cs C hn _ ih =>
  simp only [QY] at hs
  exact .tup cs C hn fun j v hj=>ih j v hj (Xs hs (List.mem_of_getElem? hj))
 | mp i b z cap h=>exact .mp i b z cap ((hρ i (by simpa [QY] using hs)).trans h)
 | yl i b z cap h=>exact .yl i b z cap ((hρ i (by simpa [QY] using hs)).trans h)
 | bnd f v c _ ih =>
  simp only [QY] at hs
  exact .bnd f v c (ih hs)
def scopedE (D:List Nat):List (List AV)->Bool
 | []=>true
 | e::r=>XX D e&&scopedE D r
theorem scopedE_mem {D:List Nat}:∀ {els:List (List AV)} {el:List AV},scopedE D els=true->el∈els->XX D el=true
 | e::r,el,h,he=>by
  simp only [scopedE,Bool.and_eq_true] at h
  rcases List.mem_cons.1 he with rfl | he
  ·exact h.1
  ·exact scopedE_mem h.2 he
def Jh (D:List Nat):Ob->Bool
 | .dead=>true
 | .glob _ _=>true
 | .mset _=>true
 | .fm _=>false
 | .lp _ Fl=>XX D (Fl.map (·.2))
 | .cells _ _ _ true=>true
 | .cells _ _ els false=>scopedE D els
theorem OR.scope {w:World} {S:Nat->Prop} {ρ ρ':Rho} {ob:Ob} {bk:Option Nat} {z cap:Nat} (h:OR w S ρ ob bk z cap) {D:List Nat} (hs:Jh D ob=true) (hρ:∀ i,i∈D->ρ' i=ρ i):OR w S ρ' ob bk z cap:=by
 cases ob with
 | dead=>trivial
 | glob g cs=>exact h
 | mset ks=>exact h
 | fm kvs=>cases hs
 | lp r Fl =>
  obtain ⟨b,h1,h2,h3,h4⟩:=h
  exact ⟨b,h1,h2,h3,fun t v hv=>(h4 t v hv).scope (Xs hs (List.mem_map_of_mem (f:=(·.2)) hv)) hρ⟩
 | cells e z' els fl =>
  obtain ⟨hz,h⟩:=h
  refine ⟨hz,?_⟩
  cases bk with
  | none=>exact h
  | some b =>
   obtain ⟨h0,hm,C,hC,h1,h2,h3,h4⟩:=h
   refine ⟨h0,hm,C,hC,h1,h2,h3,fun j el o v he hv=>?_⟩
   obtain ⟨q1,q2⟩:=h4 j el o v he hv
   refine ⟨q1,?_⟩
   cases fl with
   | true=>exact q2
   | false =>
    rw [if_neg (by simp)] at q2 ⊢
    exact q2.scope (Xs (scopedE_mem hs (List.mem_of_getElem? he)) (List.mem_of_getElem? hv)) hρ
def VRs (w:World) (S:Nat->Prop) (ρ:Rho) (vs:List AV) (C:Array Value):Prop:=C.size=vs.length/\∀ (j:Nat) (v:AV),vs[j]?=some v->VR w S ρ v (C.getD j undef)
def FC (P:Program) (f:FuncId) (args:List AV) (H:Hp) (r:AV) (H':Hp) (al:Bool):Prop :=
 ∀ (w:World) (S:Nat->Prop) (ρ:Rho) (cargs:Array Value),HRF w S ρ (get H)->VRs w S ρ args cargs->Calls P f cargs w fun e w'=>∃ cv S' ρ',e = .returned cv/\VR w' S' ρ' r cv/\HRF w' S' ρ' (get H') ∧
  Keep w w' (LiveF ρ (get H) All)/\(∀ b,S' b->(al=true/\S b)\/LiveF ρ (get H) All b\/w.heap.size<=b)/\(∀ b,LiveF ρ' (get H') All b->LiveF ρ (get H) All b\/w.heap.size<=b) ∧
  (∀ i,get H i≠none->ρ' i=ρ i)/\(∀ i,get H i≠none->get H' i≠none)
theorem J6 {α:Type}:∀ (A B:List (Nat×α)) (i:Nat),get (A++B) i=(get A i).or (get B i)
 | [],B,i=>by simp [get]
 | (k,v)::A,B,i=>by
  simp only [List.cons_append,get]
  split
  ·simp
  ·exact J6 A B i
section
variable {P:Program} {N:Nat} {ops:Array Oper} {o:Oper} {mo:MOper} {F:Fr} {H:Hp}
def Qh {α:Type} (H:List (Nat×α)):List Nat:=H.map (·.1)
theorem QE {α:Type}:∀ {H:List (Nat×α)} {i:Nat},i∈Qh H ↔ get H i≠none
 | [],i=>by simp [Qh,get]
 | (k,v)::H,i=>by
  have ih := @QE α H i
  simp only [Qh,List.map_cons,List.mem_cons,get] at ih ⊢
  by_cases h:k=i
  ·simp [h]
  ·rw [if_neg h,← ih]
   exact ⟨fun h'=>h'.resolve_left (Ne.symm h),.inr⟩
theorem guard_wanted {mo:MOper} (hc:XQ P N ops o=some mo) {F:Fr} {a:Act} {w:World} {S:Nat->Prop} {ρ:Rho} (hF:FRs mo.slots F a w S ρ)
  (hg:mo.guard=none\/∃ g want,mo.guard=some (g,want)/\get F g=some (.bool want)):Region.wanted o (yielded ops a.tmps)=true:=by
 obtain ⟨_,_,_,_,e5⟩:=QX hc
 rcases e5 with ⟨g1,_⟩ | ⟨j,g,want,g1,g2,g3⟩
 ·simp [Region.wanted,g1]
 ·rcases hg with hg | ⟨g',want',hg,hgv⟩
  ·rw [g3] at hg; cases hg
  ·rw [g3] at hg
   simp only [Option.some.injEq,Prod.mk.injEq] at hg
   obtain ⟨rfl,rfl⟩:=hg
   have hv:=(hF g (by simp [MOper.slots,g3]) _ hgv).bool_inv
   simp [Region.wanted,g1,yielded_bool g2 hv]
theorem run_callFunc {f:FuncId} (hf:entered P f=true) (args:Array Value) (w:World):(callFunc f args).run P w = .ok (.enter f args) w:=by
 unfold entered at hf
 split at hf
 ·rename_i fn hfn
  simp only [Bool.and_eq_true,Bool.not_eq_true',beq_eq_false_iff_ne] at hf
  obtain ⟨h1,h2⟩:=hf
  cases hb:fn.body with
  | none=>rw [hb] at h1; cases h1
  | some c=>simp [callFunc,hfn,h2,hb]
 ·cases hf
def Enters (P:Program) (o:Oper) (mo:MOper) (F:Fr) (f:FuncId) (vs:List AV):Prop :=
 ∀ (S:Nat->Prop) (ρ:Rho) (a:Act) (w:World),FRs mo.slots F a w S ρ->∃ cargs:Array Value,(execOp a.eval o).run P w = .ok (.enter f cargs) w/\VRs w S ρ vs cargs
theorem enters_call (hc:XQ P N ops o=some mo) {f:FuncId} {as:List Arg} (hop:mo.op = .call f as) {vs:List AV} (hv:Ul F as=some vs):Enters P o mo F f vs:=by
 obtain ⟨e1,_⟩:=QX hc
 rw [hop] at e1
 intro S ρ a w hF
 cases ho:o.op with
 | call c =>
  rw [ho] at e1
  simp only [QT,compCall] at e1
  split at e1
  ·rename_i g hcal
   split at e1
   ·rename_i hent
    split at e1
    ·rename_i as' has
     injection e1 with e1
     injection e1 with e2 e3
     subst e2 e3
     obtain ⟨q1,q2⟩:=cargs_ok hF _ _ _ has (fun t ht=>by simp [MOper.slots,hop,MOp.slots,ht]) hv
     have earr:c.args.map a.eval=(c.args.toList.map a.eval).toArray:=by rw [← Array.toList_map,Array.toArray_toList]
     refine ⟨c.args.map a.eval,?_,by rw [earr]; exact ⟨by simpa using q1,q2⟩⟩
     simp [execOp,ho,resolve,hcal,Act.eval,Deferred.ofValue,invoke,run_callFunc hent]
    ·cases e1
   ·cases e1
  ·split at e1 <;> simp at e1
  all_goals (repeat' split at e1) <;> simp at e1
 | _=>rw [ho] at e1; simp only [QT,compBin2] at e1; (repeat' split at e1) <;> first | contradiction | (unfold compBin3 at e1; (repeat' split at e1) <;> (cases e1; done)) | (cases e1; done) | (obtain ⟨r,_,e2⟩:=map_some e1; cases e2)
theorem enters_callv (hc:XQ P N ops o=some mo) {g:Arg} {as:List Arg} (hop:mo.op = .callv g as) {vs cs:List AV} {f:FuncId} (hg:Qj F g=some (.fn (.func f) cs)) (hent:entered P f=true) (hv:Ul F as=some vs) :
  Enters P o mo F f (vs++cs):=by
 obtain ⟨e1,_⟩:=QX hc
 rw [hop] at e1
 intro S ρ a w hF
 cases ho:o.op with
 | call c =>
  rw [ho] at e1
  simp only [QT,compCall] at e1
  split at e1
  ·split at e1
   ·split at e1 <;> simp at e1
   ·cases e1
  ·rename_i t hcal
   split at e1
   ·rename_i as' has
    injection e1 with e1
    injection e1 with e2 e3
    subst e2 e3
    obtain ⟨q1,q2⟩:=cargs_ok hF _ _ _ has (fun t ht=>by simp [MOper.slots,hop,MOp.slots,ht]) hv
    have hfv:=Qn (x:=.tmp t) (r:=.t t) rfl hF (fun k hk=>List.mem_append_left _ (by rw [hop]; exact List.mem_append_left _ hk)) hg
    obtain ⟨C,e4,e5,e6⟩:=hfv.fn_inv
    have earr:c.args.map a.eval=(c.args.toList.map a.eval).toArray:=by rw [← Array.toList_map,Array.toArray_toList]
    refine ⟨c.args.map a.eval++C,?_,by rw [earr]; simp at q1; simp [q1,e5],fun j v hj=>?_⟩
    ·simp [execOp,ho,resolve,hcal,e4,Deferred.ofValue,invoke,run_callFunc hent]
    ·rw [earr]
     by_cases hjl:j<vs.length
     ·rw [List.getElem?_append_left hjl] at hj
      have:=q2 j v hj
      have hs:j<(c.args.toList.map a.eval).toArray.size:=by simp at q1 ⊢; omega
      rw [Array.getD_eq_getD_getElem?,Array.getElem?_append_left hs,← Array.getD_eq_getD_getElem?]
      exact this
     ·rw [List.getElem?_append_right (by omega)] at hj
      have hs:(c.args.toList.map a.eval).toArray.size<=j:=by simp at q1 ⊢; omega
      rw [Array.getD_eq_getD_getElem?,Array.getElem?_append_right hs,← Array.getD_eq_getD_getElem?]
      have hsz:(c.args.toList.map a.eval).toArray.size=vs.length:=by simpa using q1
      rw [hsz]
      exact e6 _ v hj
   ·cases e1
  all_goals (repeat' split at e1) <;> simp at e1
 | _=>rw [ho] at e1; simp only [QT,compBin2] at e1; (repeat' split at e1) <;> first | contradiction | (unfold compBin3 at e1; (repeat' split at e1) <;> (cases e1; done)) | (cases e1; done) | (obtain ⟨r,_,e2⟩:=map_some e1; cases e2)
theorem VR.bnd_inv {w:World} {S:Nat->Prop} {ρ:Rho} {f:Fn} {v:AV} {c:Value} (h:VR w S ρ (.bnd f v) c):∃ cv,c = .func f #[cv] #[]/\VR w S ρ v cv:=by
 cases h with
 | cl h=>cases h
 | bnd _ _ cv h=>exact ⟨cv,rfl,h⟩
theorem enters_callb (hc:XQ P N ops o=some mo) {g:Arg} {as:List Arg} (hop:mo.op = .callv g as) {vs:List AV} {v:AV} {f:FuncId} (hg:Qj F g=some (.bnd (.func f) v)) (hent:entered P f=true) (hv:Ul F as=some vs) :
  Enters P o mo F f (v::vs):=by
 obtain ⟨e1,_⟩:=QX hc
 rw [hop] at e1
 intro S ρ a w hF
 cases ho:o.op with
 | call c =>
  rw [ho] at e1
  simp only [QT,compCall] at e1
  split at e1
  ·split at e1
   ·split at e1 <;> simp at e1
   ·cases e1
  ·rename_i t hcal
   split at e1
   ·rename_i as' has
    injection e1 with e1
    injection e1 with e2 e3
    subst e2 e3
    obtain ⟨q1,q2⟩:=cargs_ok hF _ _ _ has (fun t ht=>by simp [MOper.slots,hop,MOp.slots,ht]) hv
    have hfv:=Qn (x:=.tmp t) (r:=.t t) rfl hF (fun k hk=>List.mem_append_left _ (by rw [hop]; exact List.mem_append_left _ hk)) hg
    obtain ⟨cv,e4,e5⟩:=hfv.bnd_inv
    have earr:c.args.map a.eval=(c.args.toList.map a.eval).toArray:=by rw [← Array.toList_map,Array.toArray_toList]
    refine ⟨#[cv]++c.args.map a.eval,?_,by rw [earr]; simp at q1; simp [q1],fun j u hj=>?_⟩
    ·simp [execOp,ho,resolve,hcal,e4,Deferred.ofValue,invoke,run_callFunc hent]
    ·cases j with
     | zero =>
      simp at hj; subst hj
      rw [Array.getD_eq_getD_getElem?,Array.getElem?_append_left (by simp)]
      simpa using e5
     | succ j =>
      have:=q2 j u (by simpa using hj)
      rw [earr]
      rw [Array.getD_eq_getD_getElem?] at this ⊢
      rw [Array.getElem?_append_right (by simp)]
      simpa using this
   ·cases e1
  all_goals (repeat' split at e1) <;> simp at e1
 | _=>rw [ho] at e1; simp only [QT,compBin2] at e1; (repeat' split at e1) <;> first | contradiction | (unfold compBin3 at e1; (repeat' split at e1) <;> (cases e1; done)) | (cases e1; done) | (obtain ⟨r,_,e2⟩:=map_some e1; cases e2)
def Hands (H Hs:Hp) (rd:List Nat) (al:Bool) (vs vs':List AV):Prop :=
 ∀ (w:World) (S:Nat->Prop) (ρ:Rho) (C:Array Value),HRi (fun i=>i∈rd\/get Hs i≠none) w S ρ H->VRs w S ρ vs C →
  VRs w (fun b=>S b\/(al=false/\JI ρ H (fun i=>i∈rd) b)) (fun i=>if get Hs i≠none then ρ i else none) vs' C
def FCg (sem:Array Value->World->(Ending->World->Prop)->Prop) (args:List AV) (H:Hp) (r:AV) (H':Hp) (al:Bool):Prop :=
 ∀ (w:World) (S:Nat->Prop) (ρ:Rho) (cargs:Array Value),HRF w S ρ (get H)->VRs w S ρ args cargs->sem cargs w fun e w'=>∃ cv S' ρ',e = .returned cv/\VR w' S' ρ' r cv/\HRF w' S' ρ' (get H') ∧
  Keep w w' (LiveF ρ (get H) All)/\(∀ b,S' b->(al=true/\S b)\/LiveF ρ (get H) All b\/w.heap.size<=b)/\(∀ b,LiveF ρ' (get H') All b->LiveF ρ (get H) All b\/w.heap.size<=b) ∧
  (∀ i,get H i≠none->ρ' i=ρ i)/\(∀ i,get H i≠none->get H' i≠none)
theorem fc_g {P:Program} {f:FuncId} {args:List AV} {H H':Hp} {r:AV} {al:Bool}:FC P f args H r H' al ↔ FCg (fun c w R=>Calls P f c w R) args H r H' al:=Iff.rfl
def SemMono (sem:Array Value->World->(Ending->World->Prop)->Prop):Prop:=∀ {c:Array Value} {w:World} {R R':Ending->World->Prop},(∀ e w',R e w'->R' e w')->sem c w R->sem c w R'
def EntersG (P:Program) (o:Oper) (mo:MOper) (F:Fr) (sem:Array Value->World->(Ending->World->Prop)->Prop) (vs:List AV):Prop :=
 ∀ (rn:Option Nat) (S:Nat->Prop) (ρ:Rho) (a:Act) (w:World),FRs mo.slots F a w S ρ->∃ cargs:Array Value,VRs w S ρ vs cargs/\∀ (K:Act->World->Prop) (Q:Exit->Act->World->Prop),
  sem cargs w (fun e w'=>∃ cv,e = .returned cv/\K (a.put o.dst cv) w')->o.wpIn (Fc rn) 0 P a w K Q
theorem Enters.g (hc:XQ P N ops o=some mo) {f:FuncId} {vs:List AV} (he:Enters P o mo F f vs):EntersG P o mo F (fun c w R=>Calls P f c w R) vs:=fun rn S ρ a w hF=>by
 obtain ⟨cmp,_⟩:=QX hc
 obtain ⟨cargs,hrun,hvr⟩:=he S ρ a w hF
 refine ⟨cargs,hvr,fun K Q h=>wpIn_of_wp (compOp_nd cmp) ?_⟩
 unfold Oper.wp
 rw [hrun]
 exact Calls.mono h fun e w' ⟨cv,he,hk⟩=>by subst he; exact hk
theorem call_core {sem:Array Value->World->(Ending->World->Prop)->Prop} (hmono:SemMono sem) {vs vs':List AV}
  {Hs H':Hp} {r:AV} {al:Bool} {rd:List Nat} (hfc:FCg sem vs' Hs r H' al) (hh:Hands H Hs rd al vs vs') (hal:al=false->Hs=[]) (hsub:∀ i ob,get Hs i=some ob->get H i=some ob)
  (hsc:∀ i ob,get Hs i=some ob->Jh (Qh Hs) ob=true) (hrd:∀ i,i∈rd->get Hs i=none) (hnew:∀ i,get H' i≠none->get Hs i=none->get H i=none) (hdom:∀ i,get Hs i≠none->get H' i≠none)
  {w:World} {S:Nat->Prop} {ρ:Rho} {cargs:Array Value} (hvr:VRs w S ρ vs cargs) (hS:∀ b,S b->b<w.heap.size) (hH:HRi (fun i=>i∈rd\/i∈Qh H') w S ρ H) (hnewρ:∀ i,i∈Qh H'->get H i=none->ρ i=none)
  {R:Ending->World->Prop} (hK:∀ cv w' S' ρ',VR w' S' ρ' r cv->HRi (fun i=>i∈rd\/i∈Qh H') w' S' ρ' (H'++H) →
   Ext w S (JI ρ H fun i=>i∈rd\/i∈Qh H') ρ w' S' (JI ρ' (H'++H) fun i=>i∈rd\/i∈Qh H') ρ' (fun i=>i∈Qh H'/\get H i=none)->R (.returned cv) w'):sem cargs w R:=by
 have hwr:∀ i,i∈Qh H' ↔ get H' i≠none:=fun i=>QE
 have hI:∀ i,(i∈rd\/get Hs i≠none)->(i∈rd\/i∈Qh H'):=fun i hi=>hi.imp id fun h=>(hwr i).2 (hdom i h)
 have hHI:HRi (fun i=>i∈rd\/get Hs i≠none) w S ρ H:=⟨fun i ob hi=>hH.ob i ob (hI i hi),fun i j oi oj b z z' c c' hi hj=>hH.dis i j oi oj b z z' c c' (hI i hi) (hI j hj)⟩
 have hargs:=hh w S ρ cargs hHI hvr
 -- facts on blocks
 have liveRd:∀ i ob b z cap,(i∈rd\/i∈Qh H')->get H i=some ob->ob.live=true->ρ i=some (some b,z,cap)->¬ S b/\b<w.heap.size:=fun i ob b z cap hi hgi hl hr=>by
  obtain ⟨bk,z1,c1,q1,q2⟩:=hH.ob i ob hi hgi
  rw [hr] at q1
  injection q1 with q1
  obtain ⟨rfl,rfl,rfl⟩:some b=bk/\z=z1/\cap=c1:=by simpa using q1
  cases ob with
  | dead=>cases hl
  | glob g0 cs0=>cases hl
  | cells e1 z1 els1 fl1 =>
   obtain ⟨_,q3,_,C,q4,_⟩:=q2
   exact ⟨q3,(Array.getElem?_eq_some_iff.1 q4).1⟩
  | lp r1 Fl1 =>
   obtain ⟨b1,e1,q3,q4,_⟩:=q2
   injection e1 with e1; subst e1
   exact ⟨q3,(Array.getElem?_eq_some_iff.1 q4).1⟩
  | fm kvs =>
   obtain ⟨b1,es,clk,e1,q3,q4,_⟩:=q2
   injection e1 with e1; subst e1
   exact ⟨q3,(Array.getElem?_eq_some_iff.1 q4).1⟩
  | mset ks =>
   obtain ⟨b1,es,clk,e1,q3,q4,_⟩:=q2
   injection e1 with e1; subst e1
   exact ⟨q3,(Array.getElem?_eq_some_iff.1 q4).1⟩
 let Sc:Nat->Prop:=fun b=>S b\/(al=false/\JI ρ H (fun i=>i∈rd) b)
 let ρs:Rho:=fun i=>if get Hs i≠none then ρ i else none
 have hρs:∀ i,get Hs i≠none->ρs i=ρ i:=fun i hi=>if_pos hi
 have hHs:HRF w Sc ρs (get Hs):=by
  refine ⟨fun b hb=>?_,fun i hi=>?_,⟨fun i ob _ hgi=>?_,fun i j oi oj b z z' c c' _ _ hne hgi hgj hli hlj hri hrj=>?_⟩⟩
  ·rcases hb with hb | ⟨_,i,ob,z,cap,hi,hgi,hl,hr⟩
   ·exact hS b hb
   ·exact (liveRd i ob b z cap (.inl hi) hgi hl hr).2
  ·simp [ρs,hi]
  ·have hne:get Hs i≠none:=by rw [hgi]; simp
   obtain ⟨bk,z,cap,q1,q2⟩:=hH.ob i ob (hI i (.inr hne)) (hsub i ob hgi)
   refine ⟨bk,z,cap,by rw [hρs i hne]; exact q1,?_⟩
   have q3:=q2.scope (ρ':=ρs) (hsc i ob hgi) (fun k hk=>hρs k (QE.1 hk))
   refine OR.mono (w':=w) (S':=Sc) (ρ':=ρs) (fun b hb=>.inl hb) (fun _ _ _ h=>h) (fun _ _ h=>h) (fun b hb hl=>⟨rfl,fun hs=>?_⟩) q3
   subst hb
   rcases hs with hs | ⟨ha,_⟩
   ·exact (liveRd i ob b z cap (hI i (.inr hne)) (hsub i ob hgi) hl q1).1 hs
   ·rw [hal ha] at hgi; simp [get] at hgi
  ·have h1:get Hs i≠none:=by rw [hgi]; simp
   have h2:get Hs j≠none:=by rw [hgj]; simp
   rw [hρs i h1] at hri
   rw [hρs j h2] at hrj
   exact hH.dis i j oi oj b z z' c c' (hI i (.inr h1)) (hI j (.inr h2)) hne (hsub i oi hgi) (hsub j oj hgj) hli hlj hri hrj
 refine hmono (fun e w' ⟨cv,S',ρ',he,hv,hh',hk,hf,hown,hrho,_⟩=>?_) (hfc w Sc ρs cargs hHs hargs)
 subst he
 let Sn:Nat->Prop:=fun b=>S b\/S' b
 let ρn:Rho:=fun i=>if i∈Qh H' then ρ' i else ρ i
 have hρn:∀ i x,ρ' i=some x->ρn i=some x:=fun i x hx=>by
  have:i∈Qh H':=(hwr i).2 fun h=>by rw [hh'.dom i h] at hx; cases hx
  simp only [ρn]; rw [if_pos this]; exact hx
 have liveHs:∀ b,LiveF ρs (get Hs) All b->JI ρ H (fun i=>i∈rd\/i∈Qh H') b:=fun b ⟨i,ob,z,cap,_,hgi,hl,hr⟩=>by
  have hne:get Hs i≠none:=by rw [hgi]; simp
  rw [hρs i hne] at hr
  exact ⟨i,ob,z,cap,hI i (.inr hne),hsub i ob hgi,hl,hr⟩
 have Sfresh:∀ b,S' b->S b\/LiveF ρs (get Hs) All b\/w.heap.size<=b:=fun b hb=>by
  rcases hf b hb with ⟨ha,hs⟩ | h | h
  ·rcases hs with hs | ⟨ha',_⟩
   ·exact .inl hs
   ·rw [ha] at ha'; cases ha'
  ·exact .inr (.inl h)
  ·exact .inr (.inr h)
 have cellS:∀ (a:Addr) (c:Value),S a.block->w.cell? a=some c->w'.cell? a=some c:=fun a c hs hc=>by
  refine hk.cell (fun hl=>?_) hc
  obtain ⟨i,ob,z,cap,hi,hgi,hl',hr⟩:=liveHs a.block hl
  exact (liveRd i ob _ z cap hi hgi hl' hr).1 hs
 have new_of:∀ i,i∈Qh H'->get H i≠none->get Hs i≠none:=fun i hi hne h=>hne (hnew i ((hwr i).1 hi) h)
 have ρn_old:∀ i,¬ (i∈Qh H'/\get H i=none)->ρn i=ρ i:=fun i hi=>by
  by_cases hw:i∈Qh H'
  ·have h1:get Hs i≠none:=new_of i hw fun h=>hi ⟨hw,h⟩
   simp only [ρn]; rw [if_pos hw,hrho i h1,hρs i h1]
  ·simp only [ρn]; rw [if_neg hw]
 have hρ_n:∀ i x,ρ i=some x->ρn i=some x:=fun i x hx=>by
  rw [ρn_old i fun ⟨h1,h2⟩=>by rw [hnewρ i h1 h2] at hx; cases hx]; exact hx
 -- an object that the callee was handed or has made
 have inH':∀ i ob,i∈Qh H'->get (H'++H) i=some ob->get H' i=some ob:=fun i ob hi hgi=>by
  rw [J6] at hgi
  cases h:get H' i with
  | none=>exact absurd h ((hwr i).1 hi)
  | some x=>rw [h] at hgi; simpa using hgi
 have notH':∀ i ob,i ∉ Qh H'->get (H'++H) i=some ob->get H i=some ob:=fun i ob hi hgi=>by
  have:get H' i=none:=by cases h:get H' i with
   | none=>rfl
   | some x=>exact absurd ((hwr i).2 (by rw [h]; simp)) hi
  rw [J6,this] at hgi; simpa using hgi
 have far:∀ i ob b z cap,i∈rd->i ∉ Qh H'->get H i=some ob->ob.live=true->ρ i=some (some b,z,cap)->¬ LiveF ρs (get Hs) All b:=fun i ob b z cap hi hni hgi hl hr ⟨k,ob',z',cap',_,hgk,hl',hrk⟩=>by
  have hne:get Hs k≠none:=by rw [hgk]; simp
  rw [hρs k hne] at hrk
  exact hH.dis i k ob ob' b z z' cap cap' (.inl hi) (hI k (.inr hne)) (fun e=>hne (by rw [← e]; exact hrd i hi)) hgi (hsub k ob' hgk) hl hl' hr hrk
 refine hK cv w' Sn ρn (hv.mono (fun b hb=>.inr hb) (fun _ _ _ h=>h) hρn) ⟨fun i ob hi hgi=>?_,fun i j oi oj b z z' c c' hi hj hne hgi hgj hli hlj hri hrj=>?_⟩
  ⟨hk.mono liveHs,fun b hb=>.inl hb,fun b hb=>hb.elim .inl (fun h=>(Sfresh b h).imp id fun h=>h.imp (liveHs b) id),fun b hb=>hb.elim (fun h=>Nat.lt_of_lt_of_le (hS b h) hk.size) (hh'.hS b),fun b hb=>?_,ρn_old⟩
 ·by_cases hw':i∈Qh H'
  ·have h1:=inH' i ob hw' hgi
   obtain ⟨bk,z,cap,q1,q2⟩:=hh'.at_.ob i ob trivial h1
   refine ⟨bk,z,cap,hρn i _ q1,q2.mono (fun b hb=>.inr hb) (fun _ _ _ h=>h) hρn fun b hb hl=>⟨rfl,fun hs=>?_⟩⟩
   subst hb
   rcases hs with hs | hs
   ·rcases hown b ⟨i,ob,z,cap,trivial,h1,hl,q1⟩ with h | h
    ·obtain ⟨k,ob',z',cap',hk1,hgk,hlk,hrk⟩:=liveHs b h
     exact (liveRd k ob' b z' cap' hk1 hgk hlk hrk).1 hs
    ·have:=hS b hs; omega
   ·exact (hh'.cells_ne h1 hl q1).1 hs
  ·have hi':i∈rd:=hi.resolve_right hw'
   have h1:=notH' i ob hw' hgi
   obtain ⟨bk,z,cap,q1,q2⟩:=hH.ob i ob hi h1
   refine ⟨bk,z,cap,hρ_n i _ q1,q2.mono (fun b hb=>.inl hb) cellS hρ_n fun b hb hl=>?_⟩
   subst hb
   obtain ⟨g1,g2⟩:=liveRd i ob b z cap hi h1 hl q1
   exact ⟨hk.block b g2 (far i ob b z cap hi' hw' h1 hl q1),fun hs=>hs.elim g1 fun hs=>(Sfresh b hs).elim g1 fun h=>h.elim (far i ob b z cap hi' hw' h1 hl q1) (by omega)⟩
 ·-- distinct
  have mixed:∀ i j oi oj z z' c c',i∈Qh H'->j ∉ Qh H'->j∈rd->get H' i=some oi->get H j=some oj->oi.live=true->oj.live=true->ρ' i=some (some b,z,c)->ρ j=some (some b,z',c')->False:=by
   intro i j oi oj z z' c c' hi hj hjr hgi hgj hli hlj hri hrj
   rcases hown b ⟨i,oi,z,c,trivial,hgi,hli,hri⟩ with h | h
   ·exact far j oj b z' c' hjr hj hgj hlj hrj h
   ·have:=(liveRd j oj b z' c' (.inl hjr) hgj hlj hrj).2; omega
  by_cases hwi:i∈Qh H'
  ·have hgi':=inH' i oi hwi hgi
   simp only [ρn] at hri
   rw [if_pos hwi] at hri
   by_cases hwj:j∈Qh H'
   ·simp only [ρn] at hrj
    rw [if_pos hwj] at hrj
    exact hh'.at_.dis i j oi oj b z z' c c' trivial trivial hne hgi' (inH' j oj hwj hgj) hli hlj hri hrj
   ·simp only [ρn] at hrj
    rw [if_neg hwj] at hrj
    exact mixed i j oi oj z z' c c' hwi hwj (hj.resolve_right hwj) hgi' (notH' j oj hwj hgj) hli hlj hri hrj
  ·have hgi':=notH' i oi hwi hgi
   simp only [ρn] at hri
   rw [if_neg hwi] at hri
   by_cases hwj:j∈Qh H'
   ·simp only [ρn] at hrj
    rw [if_pos hwj] at hrj
    exact mixed j i oj oi z' z c' c hwj hwi (hi.resolve_right hwi) (inH' j oj hwj hgj) hgi' hlj hli hrj hri
   ·simp only [ρn] at hrj
    rw [if_neg hwj] at hrj
    exact hH.dis i j oi oj b z z' c c' hi hj hne hgi' (notH' j oj hwj hgj) hli hlj hri hrj
 ·obtain ⟨i,ob,z,cap,hi,hgi,hl,hr⟩:=hb
  by_cases hwi:i∈Qh H'
  ·simp only [ρn] at hr
   rw [if_pos hwi] at hr
   rcases hown b ⟨i,ob,z,cap,trivial,inH' i ob hwi hgi,hl,hr⟩ with h | h
   ·exact .inl (liveHs b h)
   ·exact .inr h
  ·simp only [ρn] at hr
   rw [if_neg hwi] at hr
   exact .inl ⟨i,ob,z,cap,hi,notH' i ob hwi hgi,hl,hr⟩
theorem step_callg {sem:Array Value->World->(Ending->World->Prop)->Prop} (hmono:SemMono sem) (hc:XQ P N ops o=some mo) (hg:mo.guard=none\/∃ g want,mo.guard=some (g,want)/\get F g=some (.bool want)) {vs vs':List AV} (he:EntersG P o mo F sem vs)
  {Hs H':Hp} {r:AV} {al:Bool} {rd:List Nat} (hfc:FCg sem vs' Hs r H' al) (hh:Hands H Hs rd al vs vs') (hal:al=false->Hs=[]) (hsub:∀ i ob,get Hs i=some ob->get H i=some ob)
  (hsc:∀ i ob,get Hs i=some ob->Jh (Qh Hs) ob=true) (hrd:∀ i,i∈rd->get Hs i=none) (hnew:∀ i,get H' i≠none->get Hs i=none->get H i=none) (hdom:∀ i,get Hs i≠none->get H' i≠none) :
  StepM P N ops o mo F H rd (Qh H') r (H'++H):=by
 have hwr:∀ i,i∈Qh H' ↔ get H' i≠none:=fun i=>QE
 refine ⟨fun i hi=>?_,fun i hi=>?_,fun rn S ρ a w Q K hout hN hF hS hH hnewρ hK=>?_⟩
 ·rw [hwr] at hi
  have:get H' i=none:=by cases h:get H' i <;> simp_all
  rw [J6,this]; rfl
 ·rw [hwr] at hi
  rw [J6]
  cases h:get H' i with
  | none=>exact absurd h hi
  | some ob=>rfl
 ·have hw:=guard_wanted hc hF hg
  unfold wpG
  rw [if_pos hw]
  obtain ⟨cargs,hvr,hgo⟩:=he rn S ρ a w hF
  exact hgo K Q (call_core (sem:=sem) (fun h=>hmono h) hfc hh hal hsub hsc hrd hnew hdom hvr hS hH hnewρ fun cv w' S' ρ' h1 h2 h3=>⟨cv,rfl,hK cv w' S' ρ' h1 h2 h3⟩)
theorem step_call (hc:XQ P N ops o=some mo) (hg:mo.guard=none\/∃ g want,mo.guard=some (g,want)/\get F g=some (.bool want)) {f:FuncId} {vs vs':List AV} (he:Enters P o mo F f vs)
  {Hs H':Hp} {r:AV} {al:Bool} {rd:List Nat} (hfc:FC P f vs' Hs r H' al) (hh:Hands H Hs rd al vs vs') (hal:al=false->Hs=[]) (hsub:∀ i ob,get Hs i=some ob->get H i=some ob)
  (hsc:∀ i ob,get Hs i=some ob->Jh (Qh Hs) ob=true) (hrd:∀ i,i∈rd->get Hs i=none) (hnew:∀ i,get H' i≠none->get Hs i=none->get H i=none) (hdom:∀ i,get Hs i≠none->get H' i≠none) :
  StepM P N ops o mo F H rd (Qh H') r (H'++H) :=
 step_callg (sem:=fun c w R=>Calls P f c w R) (fun hr h=>Calls.mono h hr) hc hg (he.g hc) (fc_g.1 hfc) hh hal hsub hsc hrd hnew hdom
end
end Go.Proofs.YthfhaoogcpfboaaGreat
namespace Go.Proofs.YthfhaoogcpfboaaGreat
open Go.RowKit
mutual
def noRO:AV->Bool
 | .bnd _ v=>noRO v
 | .rp _=>false
 | .rs _ _=>false
 | .fn _ caps=>noROL caps
 | .agg cs=>noROL cs
 | .tup cs=>noROL cs
 | .ifc _ v=>noRO v
 | .bm _ v=>noRO v
 | _=>true
def noROL:List AV->Bool
 | []=>true
 | v::l=>noRO v&&noROL l
end
theorem Uf:∀ {l:List AV} {v:AV},noROL l=true->v∈l->noRO v=true
 | u::l,v,h,hv=>by
  simp only [noROL,Bool.and_eq_true] at h
  rcases List.mem_cons.1 hv with rfl | hv
  ·exact h.1
  ·exact Uf h.2 hv
theorem CR.noRO {w w':World} {S S':Nat->Prop} {v:AV} {c:Value} (h:CR w S v c) (hn:noRO v=true):CR w' S' v c:=by
 induction h with
 | any c=>exact .any c
 | und=>exact .und
 | bool b=>exact .bool b
 | int k n=>exact .int k n
 | str s=>exact .str s
 | nilp=>exact .nilp
 | rp=>simp [YthfhaoogcpfboaaGreat.noRO] at hn
 | nils=>exact .nils
 | rs0=>simp [YthfhaoogcpfboaaGreat.noRO] at hn
 | rs=>simp [YthfhaoogcpfboaaGreat.noRO] at hn
 | fn f caps C hl _ ih =>
  simp only [YthfhaoogcpfboaaGreat.noRO] at hn
  exact .fn f caps C hl fun j v hj=>ih j v hj (Uf hn (List.mem_of_getElem? hj))
 | nilf=>exact .nilf
 | agg cs C hl h1 _ ih =>
  simp only [YthfhaoogcpfboaaGreat.noRO] at hn
  exact .agg cs C hl h1 fun j v hj=>ih j v hj (Uf hn (List.mem_of_getElem? hj))
 | tup cs C hl _ ih =>
  simp only [YthfhaoogcpfboaaGreat.noRO] at hn
  exact .tup cs C hl fun j v hj=>ih j v hj (Uf hn (List.mem_of_getElem? hj))
 | nilm=>exact .nilm
 | anyb b=>exact .anyb b
 | nili=>exact .nili
 | ifc t v c _ ih=>exact .ifc t v c (ih (by simpa [YthfhaoogcpfboaaGreat.noRO] using hn))
 | bm name v c _ ih=>exact .bm name v c (ih (by simpa [YthfhaoogcpfboaaGreat.noRO] using hn))
theorem VR.noRO {w w':World} {S S':Nat->Prop} {ρ:Rho} {v:AV} {c:Value} (h:VR w S ρ v c) (hn:noRO v=true):VR w' S' ρ v c:=by
 induction h with
 | cl h=>exact .cl (h.noRO hn)
 | ptr i j o b z cap h=>exact .ptr i j o b z cap h
 | sl i j n b z cap cap' h hc hl=>exact .sl i j n b z cap cap' h hc hl
 | sl0 i z h=>exact .sl0 i z h
 | sa i j o n b z cap cap' h hl=>exact .sa i j o n b z cap cap' h hl
 | fn f caps C hl _ ih =>
  simp only [YthfhaoogcpfboaaGreat.noRO] at hn
  exact .fn f caps C hl fun j v hj=>ih j v hj (Uf hn (List.mem_of_getElem? hj))
 | agg cs C hl h1 _ ih =>
  simp only [YthfhaoogcpfboaaGreat.noRO] at hn
  exact .agg cs C hl h1 fun j v hj=>ih j v hj (Uf hn (List.mem_of_getElem? hj))
 | tup cs C hl _ ih =>
  simp only [YthfhaoogcpfboaaGreat.noRO] at hn
  exact .tup cs C hl fun j v hj=>ih j v hj (Uf hn (List.mem_of_getElem? hj))
 | mp i b z cap h=>exact .mp i b z cap h
 | yl i b z cap h=>exact .yl i b z cap h
 | bnd f v c _ ih =>
  simp only [YthfhaoogcpfboaaGreat.noRO] at hn
  exact .bnd f v c (ih hn)
def zOf:Ob->Nat
 | .dead=>0
 | .glob _ _=>0
 | .cells _ z _ _=>z
 | .mset _=>0
 | .fm _=>0
 | .lp _ _=>0
def rhoW (H H0:Hp) (ρ:Rho):Rho:=fun i=>match get H0 i with
 | none=>none
 | some ob=>match get H i with
  | some _=>ρ i
  | none=>some (none,zOf ob,0)
def Sw (H H0:Hp) (al:Bool) (S:Nat->Prop) (ρ:Rho):Nat->Prop:=fun b=>(al=true/\S b)\/LiveF ρ (get H) (fun i=>get H0 i=none) b
def RC (H H0:Hp) (al:Bool) (v r:AV):Prop:=∀ (S:Nat->Prop) (ρ:Rho) (w:World) (c:Value),HRF w S ρ (get H)->VR w S ρ v c->VR w (Sw H H0 al S ρ) (rhoW H H0 ρ) r c
theorem rhoW_kept {H H0:Hp} {ρ:Rho} {i:Nat} (h0:get H0 i≠none) (h:get H i≠none):rhoW H H0 ρ i=ρ i:=by
 unfold rhoW
 cases h1:get H0 i with
 | none=>exact absurd h1 h0
 | some ob=>cases h2:get H i with
  | none=>exact absurd h2 h
  | some _=>rfl
theorem HRF.named {w:World} {S:Nat->Prop} {ρ:Rho} {H:Hp} (hh:HRF w S ρ (get H)) {i:Nat} {x:Option Nat×Nat×Nat} (h:ρ i=some x):get H i≠none:=fun h0=>by rw [hh.dom i h0] at h; cases h
theorem VR.rhoW {w:World} {S:Nat->Prop} {ρ:Rho} {v:AV} {c:Value} (h:VR w S ρ v c) {H H0:Hp} (hh:HRF w S ρ (get H)) (hs:QY (Qh H0) v=true):VR w S (rhoW H H0 ρ) v c:=by
 have key:∀ i x,(Qh H0).contains i=true->ρ i=some x->YthfhaoogcpfboaaGreat.rhoW H H0 ρ i=some x:=fun i x hi hx=>by
  rw [rhoW_kept (QE.1 (by simpa using hi)) (hh.named hx)]; exact hx
 induction h with
 | cl h=>exact .cl h
 | ptr i j o b z cap h=>exact .ptr i j o b z cap (key i _ hs h)
 | sl i j n b z cap cap' h hc hn=>exact .sl i j n b z cap cap' (key i _ hs h) hc hn
 | sl0 i z h=>exact .sl0 i z (key i _ hs h)
 | sa i j o n b z cap cap' h hn=>exact .sa i j o n b z cap cap' (key i _ hs h) hn
 | fn f caps C hn _ ih =>
  simp only [QY] at hs
  exact .fn f caps C hn fun j v hj=>ih j v hj (Xs hs (List.mem_of_getElem? hj))
 | agg cs C hn h1 _ ih =>
  simp only [QY] at hs
  exact .agg cs C hn h1 fun j v hj=>ih j v hj (Xs hs (List.mem_of_getElem? hj))
 | tup cs C hn _ ih =>
  simp only [QY] at hs
  exact .tup cs C hn fun j v hj=>ih j v hj (Xs hs (List.mem_of_getElem? hj))
 | mp i b z cap h=>exact .mp i b z cap (key i _ hs h)
 | yl i b z cap h=>exact .yl i b z cap (key i _ hs h)
 | bnd f v c _ ih =>
  simp only [QY] at hs
  exact .bnd f v c (ih hs)
theorem Qs {H H0:Hp} {al:Bool} {v:AV} (hs:QY (Qh H0) v=true) (hn:al=true\/noRO v=true):RC H H0 al v v:=fun S ρ w c hh h=>by
 have h1:=h.rhoW hh hs
 rcases hn with rfl | hn
 ·exact h1.mono (fun b hb=>.inl ⟨rfl,hb⟩) (fun _ _ _ h=>h) (fun _ _ h=>h)
 ·exact h1.noRO hn
theorem Qy {H H0:Hp} {al:Bool} {z:Nat}:RC H H0 al .nils (.rs z []):=fun S ρ w c _ h=>by
 rw [h.nils_inv]; exact .cl (.rs0 z none 0)
theorem Xj {H H0:Hp} {al:Bool} {i e z:Nat} {fl:Bool} (h:get H i=none) (h0:get H0 i=some (.cells e z [] fl)):RC H H0 al .nils (.sl i 0 0):=fun S ρ w c _ hv=>by
 rw [hv.nils_inv]
 exact .sl0 i z (by simp [rhoW,h,h0,zOf])
theorem rc_freeze {H H0:Hp} {al:Bool} {i e z j n:Nat} {els:List (List AV)} (h:get H i=some (.cells e z els true)) (h0:get H0 i=none) (hb:j+n<=els.length)
  (hn:al=true\/∀ el∈els,∀ v∈el,noRO v=true):RC H H0 al (.sl i j n) (.rs z ((els.drop j).take n)):=fun S ρ w c hh hv=>by
 have hlen:((els.drop j).take n).length=n:=by simp; omega
 rcases hv.sl_inv with ⟨b,z0,cap,cap',hρ,hjc,hnc,rfl⟩ | ⟨z0,hρ,rfl,rfl,rfl⟩
 ·obtain ⟨bk,z1,c1,q1,hz,q2⟩:=hh.at_.ob i _ trivial h
  rw [hρ] at q1
  injection q1 with q1
  obtain ⟨rfl,rfl,rfl⟩:some b=bk/\z0=z1/\cap=c1:=by simpa using q1
  subst hz
  obtain ⟨hs,hm,C,hC,e1,e2,e3,e4⟩:=q2
  have hSb:Sw H H0 al S ρ b:=.inr ⟨i,_,z,cap,h0,h,rfl,hρ⟩
  have hcell:∀ (q:Nat) (el:List AV) (k:Nat) (u:AV),((els.drop j).take n)[q]?=some el->el[k]?=some u->els[j+q]?=some el/\q<n:=fun q el k u hq _=>by
   rw [List.getElem?_take] at hq
   split at hq
   ·rw [List.getElem?_drop] at hq; exact ⟨hq,by assumption⟩
   ·cases hq
  have hq:=CR.rs (w:=w) (S:=Sw H H0 al S ρ) z ((els.drop j).take n) b (j*z) cap' (fun q k=>C.getD ((j+q)*z+k) undef) hSb (by omega)
   (fun q el k u hq hk=>by
    obtain ⟨h1,h2⟩:=hcell q el k u hq hk
    obtain ⟨g1,g2⟩:=e4 (j+q) el k u h1 hk
    have hkz:k<z:=Nat.lt_of_lt_of_le (List.getElem?_eq_some_iff.1 hk).1 (e3 _ el h1)
    have hlt:(j+q)*z+k<C.size:=by
     rw [e1]
     calc (j+q)*z+k<(j+q)*z+z:=by omega
      _=(j+q+1)*z:=by rw [Nat.add_mul (j+q),Nat.one_mul]
      _<=cap*z:=Nat.mul_le_mul_right _ (by omega)
    refine ⟨?_,g1⟩
    rw [← Nat.add_mul,cell_of_row w b _ C e (0,0) hC]
    exact getD_some hlt)
   (fun q el k u hq hk=>by
    obtain ⟨h1,h2⟩:=hcell q el k u hq hk
    obtain ⟨_,g2⟩:=e4 (j+q) el k u h1 hk
    rw [if_pos rfl] at g2
    rcases hn with rfl | hn
    ·exact g2.mono (fun b hb=>.inl ⟨rfl,hb⟩) (fun _ _ _ h=>h)
    ·exact g2.noRO (hn el (List.mem_of_getElem? h1) u (List.mem_of_getElem? hk)))
  rw [hlen] at hq
  exact .cl hq
 ·simp; exact .cl (.rs0 z none 0)
inductive RCs (H H0:Hp) (al:Bool):List AV->List AV->Prop where
 | nil:RCs H H0 al [] []
 | cons {v r:AV} {vs rs:List AV} (h:RC H H0 al v r) (hs:RCs H H0 al vs rs):RCs H H0 al (v::vs) (r::rs)
theorem RCs.at_ {H H0:Hp} {al:Bool} {vs rs:List AV} (h:RCs H H0 al vs rs):vs.length=rs.length/\∀ (j:Nat) (r:AV),rs[j]?=some r->∃ v,vs[j]?=some v/\RC H H0 al v r:=by
 induction h with
 | nil=>exact ⟨rfl,fun j r h=>by simp at h⟩
 | cons h _ ih =>
  refine ⟨by simp [ih.1],fun j r hj=>?_⟩
  cases j with
  | zero=>simp at hj; subst hj; exact ⟨_,rfl,h⟩
  | succ j=>simpa using ih.2 j r (by simpa using hj)
theorem QI {H H0:Hp} {al:Bool} {vs rs:List AV} (h:RCs H H0 al vs rs):RC H H0 al (.tup vs) (.tup rs):=fun S ρ w c hh hv=>by
 obtain ⟨C,rfl,hn,h2⟩:=hv.tup_inv
 obtain ⟨e1,e2⟩:=h.at_
 refine .tup rs C (by rw [hn,e1]) fun j r hj=>?_
 obtain ⟨v,g1,g2⟩:=e2 j r hj
 exact g2 S ρ w _ hh (h2 j v g1)
theorem Xg {H H0:Hp} {al:Bool} {vs rs:List AV} (h:RCs H H0 al vs rs):RC H H0 al (.agg vs) (.agg rs):=fun S ρ w c hh hv=>by
 obtain ⟨C,rfl,hn,h1,h2⟩:=hv.agg_inv
 obtain ⟨e1,e2⟩:=h.at_
 refine .agg rs C (by rw [hn,e1]) (fun j r hj=>?_) fun j r hj=>?_
 ·obtain ⟨v,g1,_⟩:=e2 j r hj
  exact h1 j v g1
 ·obtain ⟨v,g1,g2⟩:=e2 j r hj
  exact g2 S ρ w _ hh (h2 j v g1)
def KeptH (H H0:Hp) (al:Bool):Prop:=∀ i ob,get H0 i=some ob →
 (get H i=some ob/\Jh (Qh H0) ob=true/\(al=true\/(((∀ r Fl,ob ≠ .lp r Fl)/\∀ g cs,ob ≠ .glob g cs)/\∀ e z els fl,ob = .cells e z els fl->∀ el∈els,∀ v∈el,noRO v=true))) ∨
 (get H i=none/\∃ e z fl,ob = .cells e z [] fl)
theorem keptH_nil {H:Hp} {al:Bool}:KeptH H [] al:=fun i ob h=>by simp [get] at h
theorem hrf_weak {H H0:Hp} {al:Bool} (hk:KeptH H H0 al) {w:World} {S:Nat->Prop} {ρ:Rho} (hh:HRF w S ρ (get H)):HRF w (Sw H H0 al S ρ) (rhoW H H0 ρ) (get H0) ∧
  (∀ b,LiveF (rhoW H H0 ρ) (get H0) All b->LiveF ρ (get H) (fun i=>get H0 i≠none) b):=by
 have live:∀ i ob b z cap,get H0 i=some ob->ob.live=true->rhoW H H0 ρ i=some (some b,z,cap)->get H i=some ob/\ρ i=some (some b,z,cap):=fun i ob b z cap hi hl hr=>by
  rcases hk i ob hi with ⟨h1,_,_⟩ | ⟨h1,e,z',fl,rfl⟩
  ·refine ⟨h1,?_⟩
   rw [rhoW_kept (by rw [hi]; simp) (by rw [h1]; simp)] at hr; exact hr
  ·simp [rhoW,hi,h1] at hr
 refine ⟨⟨fun b hb=>?_,fun i hi=>by simp [rhoW,hi],⟨fun i ob _ hi=>?_,fun i j oi oj b z z' c c' _ _ hne hi hj hli hlj hri hrj=>?_⟩⟩,fun b ⟨i,ob,z,cap,_,hi,hl,hr⟩=>?_⟩
 ·rcases hb with ⟨_,hb⟩ | ⟨i,ob,z,cap,_,hg,hl,hr⟩
  ·exact hh.hS b hb
  ·exact (hh.cells_ne hg hl hr).2
 ·rcases hk i ob hi with ⟨h1,h2,h3⟩ | ⟨h1,e,z',fl,rfl⟩
  ·obtain ⟨bk,z,cap,q1,q2⟩:=hh.at_.ob i ob trivial h1
   refine ⟨bk,z,cap,by rw [rhoW_kept (by rw [hi]; simp) (by rw [h1]; simp)]; exact q1,?_⟩
   cases ob with
   | dead=>trivial
   | glob g cs =>
    have ha:al=true:=h3.resolve_right fun h=>h.1.2 _ _ rfl
    exact CR.mono (fun b hb=>.inl ⟨ha,hb⟩) (fun _ _ _ h=>h) q2
   | lp r1 Fl1 =>
    obtain ⟨b,e1,g0,g1,g2⟩:=q2
    subst e1
    have ha:al=true:=h3.resolve_right fun h=>h.1.1 _ _ rfl
    refine ⟨b,rfl,fun hs=>?_,g1,fun t v hv=>?_⟩
    ·rcases hs with ⟨_,hs⟩ | ⟨k,ob',z2,c2,hk0,hgk,hlk,hrk⟩
     ·exact g0 hs
     ·exact hh.at_.dis i k _ ob' b z z2 cap c2 trivial trivial (fun e=>by rw [e,hk0] at hi; cases hi) h1 hgk rfl hlk q1 hrk
    ·exact ((g2 t v hv).rhoW hh (Xs h2 (List.mem_map_of_mem (f:=(·.2)) hv))).mono (fun b hb=>.inl ⟨ha,hb⟩) (fun _ _ _ h=>h) (fun _ _ h=>h)
   | fm kvs=>cases h2
   | mset ks =>
    obtain ⟨b,es,clk,e1,g0,g1,g2⟩:=q2
    subst e1
    refine ⟨b,es,clk,rfl,fun hs=>?_,g1,g2⟩
    rcases hs with ⟨_,hs⟩ | ⟨k,ob',z2,c2,hk0,hgk,hlk,hrk⟩
    ·exact g0 hs
    ·exact hh.at_.dis i k _ ob' b z z2 cap c2 trivial trivial (fun e=>by rw [e,hk0] at hi; cases hi) h1 hgk rfl hlk q1 hrk
   | cells e z' els fl =>
    obtain ⟨hz,q2⟩:=q2
    refine ⟨hz,?_⟩
    cases bk with
    | none=>exact q2
    | some b =>
     obtain ⟨g0,hm,C,hC,g1,g2,g3,g4⟩:=q2
     refine ⟨fun hs=>?_,hm,C,hC,g1,g2,g3,fun j el o v hj ho=>?_⟩
     ·rcases hs with ⟨_,hs⟩ | ⟨k,ob',z2,c2,hk0,hgk,hlk,hrk⟩
      ·exact g0 hs
      ·exact hh.at_.dis i k _ ob' b z z2 cap c2 trivial trivial (fun e=>by rw [e,hk0] at hi; cases hi) h1 hgk rfl hlk q1 hrk
     ·obtain ⟨f1,f2⟩:=g4 j el o v hj ho
      refine ⟨f1,?_⟩
      have hno:al=true\/noRO v=true:=h3.imp id fun h=>h.2 e z' els fl rfl el (List.mem_of_getElem? hj) v (List.mem_of_getElem? ho)
      by_cases hf:fl=true
      ·rw [if_pos hf] at f2 ⊢
       rcases hno with rfl | hno
       ·exact f2.mono (fun b hb=>.inl ⟨rfl,hb⟩) (fun _ _ _ h=>h)
       ·exact f2.noRO hno
      ·have hf':fl=false:=by simpa using hf
       subst hf'
       rw [if_neg (by simp)] at f2 ⊢
       exact Qs (Xs (scopedE_mem h2 (List.mem_of_getElem? hj)) (List.mem_of_getElem? ho)) hno S ρ w _ hh f2
  ·exact ⟨none,z',0,by simp [rhoW,hi,h1,zOf],rfl,rfl,rfl⟩
 ·obtain ⟨g1,g2⟩:=live i oi b z c hi hli hri
  obtain ⟨g3,g4⟩:=live j oj b z' c' hj hlj hrj
  exact hh.at_.dis i j oi oj b z z' c c' trivial trivial hne g1 g3 hli hlj g2 g4
 ·obtain ⟨g1,g2⟩:=live i ob b z cap hi hl hr
  exact ⟨i,ob,z,cap,(by show get H0 i≠none; rw [hi]; simp),g1,hl,g2⟩
inductive KeptF (H H0:Hp) (F:Fr):Fr->Prop where
 | nil:KeptF H H0 F []
 | cons {t:Nat} {v v0:AV} {F0:Fr} (h:get F t=some v) (hv:RC H H0 true v v0) (hs:KeptF H H0 F F0):KeptF H H0 F ((t,v0)::F0)
theorem KeptF.at_ {H H0:Hp} {F F0:Fr} (h:KeptF H H0 F F0):∀ t v0,get F0 t=some v0->∃ v,get F t=some v/\RC H H0 true v v0:=by
 induction h with
 | nil=>intro t v0 h; simp [get] at h
 | cons h hv _ ih =>
  rename_i t v v0 F0 _
  intro t' u hu
  simp only [get] at hu
  split at hu
  ·rename_i e; subst e; injection hu with hu; subst hu; exact ⟨v,h,hv⟩
  ·exact ih t' u hu
theorem weak_of {N:Nat} {Z:List Nat} {F F0:Fr} {H H0:Hp} (hF:KeptF H H0 F F0) (hH:KeptH H H0 true) (hZ:∀ i,i∈Z->i∈Qh H0):Weak N Z F H F0 H0:=fun S ρ a w hc=>by
 obtain ⟨g1,g2⟩:=hrf_weak hH hc.hp
 refine ⟨Sw H H0 true S ρ,rhoW H H0 ρ,⟨⟨hc.fr.size,fun t v hv=>?_⟩,hc.defers.keep (Keep.refl _ _) (fun b hb=>.inl (by obtain ⟨i,ob,z,cap,_,hg,hl,hr⟩:=g2 b hb; exact ⟨i,ob,z,cap,trivial,hg,hl,hr⟩)),g1,fun i hi=>QE.1 (hZ i hi)⟩,⟨Keep.refl _ _,fun b hb=>.inl ⟨rfl,hb⟩,fun b hb=>?_,fun b hb=>?_,fun i hi=>?_⟩⟩
 ·obtain ⟨u,h1,h2⟩:=hF.at_ t v hv
  exact h2 S ρ w _ hc.hp (hc.fr.at_ t u h1)
 ·rcases hb with ⟨_,hb⟩ | ⟨i,ob,z,cap,_,hg,hl,hr⟩
  ·exact .inl hb
  ·exact .inr (.inl ⟨i,ob,z,cap,trivial,hg,hl,hr⟩)
 ·obtain ⟨i,ob,z,cap,_,hg,hl,hr⟩:=g2 b hb
  exact .inl ⟨i,ob,z,cap,trivial,hg,hl,hr⟩
 ·exact rhoW_kept (QE.1 (hZ i hi)) (hc.z i hi)
def resV (P:Program) (F:Fr) (H:Hp):ResultVar->Option AV
 | .tmp t=>get F t
 | .cell a ty=>match get F a with
  | some (.ptr i j o)=>match get H i with
   | some (.cells _ _ els _)=>match els[j]? with
    | some el=>match aggP P ty,Xb P ty with
     | some true,some n=>if o+n<=el.length then some (.agg ((el.drop o).take n)) else none
     | some false,some _=>el[o]?
     | _,_=>none
    | none=>none
   | _=>none
  | _=>none
def resVs (P:Program) (F:Fr) (H:Hp):List ResultVar->Option (List AV)
 | []=>some []
 | x::l=>match resV P F H x,resVs P F H l with
  | some v,some vs=>some (v::vs)
  | _,_=>none
def resOne:List AV->AV
 | [v]=>v
 | vs=>.tup vs
def RetQ (P:Program) (Z:List Nat) (rs:List ResultVar) (r:AV) (H':Hp) (al:Bool):Post:=fun e F H=>(e = .normal\/e = .ret)/\∃ vs,resVs P F H rs=some vs/\RC H H' al (resOne vs) r/\KeptH H H' al ∧
 ∀ i,i∈Z->∃ ob,get H' i=some ob/\get H i≠none
def params:List AV->Nat->Fr
 | [],_=>[]
 | v::l,k=>(k,v)::params l (k+1)
theorem get_params:∀ (l:List AV) (k t:Nat) (v:AV),get (params l k) t=some v->k<=t/\l[t-k]?=some v
 | [],k,t,v,h=>by simp [params,get] at h
 | u::l,k,t,v,h=>by
  simp only [params,get] at h
  split at h
  ·rename_i e; subst e; injection h with h; subst h; simp
  ·rename_i hne
   obtain ⟨h1,h2⟩:=get_params l (k+1) t v h
   refine ⟨by omega,?_⟩
   rw [show t-k=(t-(k+1))+1 by omega]
   simpa using h2
section
variable {P:Program}
def rvRun (a:Act):ResultVar->Sem Value
 | .tmp t=>Pure.pure (a.tmps.getD t undef)
 | .cell b t=>do loadVar t (← asAddr (a.tmps.getD b undef))
theorem run_resV {F:Fr} {H:Hp} {w:World} {S:Nat->Prop} {ρ:Rho} {a:Act} {N:Nat} (hF:FRN N w S ρ (get F) a) (hH:HRF w S ρ (get H)):∀ (x:ResultVar) (v:AV),resV P F H x=some v →
  ∃ cv,(rvRun a x).run P w = .ok cv w/\VR w S ρ v cv
 | .tmp t,v,h=>⟨_,rfl,hF.at_ t v h⟩
 | .cell b ty,v,h=>by
  simp only [resV] at h
  split at h
  ·rename_i i j o hb
   split at h
   ·rename_i e z' els fl hi
    split at h
    ·rename_i el hj
     obtain ⟨bb,z,cap,hρ,e1⟩:=(hF.at_ b _ hb).ptr_inv
     obtain ⟨_,_,_,C,_,_,_,_,hc⟩:=Jw hH.at_ trivial hi hρ
     split at h
     ·rename_i n hg hz
      split at h
      ·rename_i hle
       injection h with h; subst h
       have hcell:∀ k,k<n->w.cell? ((⟨bb,j*z+o,none⟩:Addr).add k)=some (C.getD (j*z+(o+k)) undef):=fun k hk=>by
        have hk':el[o+k]?=some (el[o+k]'(by omega)):=List.getElem?_eq_getElem (by omega)
        rw [Jp,Nat.add_assoc]
        exact (hc j el (o+k) _ hj hk').1
       refine ⟨.agg ((List.range n).map fun k=>C.getD (j*z+(o+k)) undef).toArray,?_,.agg _ _ (by simp; omega) (fun k v hk=>?_) (fun k v hk=>?_)⟩
       ·simp [rvRun,e1,asAddr,JY hg hz w _ _ hcell]
       all_goals
        have hkn:k<n:=by
         have:=(List.getElem?_eq_some_iff.1 hk).1
         simp at this; omega
        rw [List.getElem?_take,if_pos hkn,List.getElem?_drop] at hk
        rw [Uu hkn]
       ·exact (hc j el (o+k) v hj hk).2.1
       ·exact (hc j el (o+k) v hj hk).2.2
      ·cases h
     ·rename_i n hg hz
      obtain ⟨q1,_,q3⟩:=hc j el o v hj h
      exact ⟨_,by simp [rvRun,e1,asAddr,run_loadVar_one hg w _ _ q1],q3⟩
     ·cases h
    ·cases h
   ·cases h
  ·cases h
theorem run_resVs {F:Fr} {H:Hp} {w:World} {S:Nat->Prop} {ρ:Rho} {a:Act} {N:Nat} (hF:FRN N w S ρ (get F) a) (hH:HRF w S ρ (get H)):∀ (l:List ResultVar) (vs:List AV),resVs P F H l=some vs →
  ∃ cs:List Value,(l.mapM (rvRun a)).run P w = .ok cs w/\cs.length=vs.length ∧
   ∀ (j:Nat) (v:AV),vs[j]?=some v->∃ c,cs[j]?=some c/\VR w S ρ v c
 | [],vs,h=>by simp [resVs] at h; subst h; exact ⟨[],by simp,rfl,fun j v h=>by simp at h⟩
 | x::l,vs,h=>by
  simp only [resVs] at h
  split at h
  ·rename_i v vs' h1 h2
   injection h with h; subst h
   obtain ⟨cv,g1,g2⟩:=run_resV (P:=P) hF hH x v h1
   obtain ⟨cs,g3,g4,g5⟩:=run_resVs hF hH l vs' h2
   refine ⟨cv::cs,?_,by simp [g4],fun j u hj=>?_⟩
   ·rw [List.mapM_cons]
    simp only [Sem.run_bind,g1,Result.andThen_ok,g3,Sem.run_pure]
   ·cases j with
    | zero=>simp at hj; subst hj; exact ⟨cv,rfl,g2⟩
    | succ j=>simpa using g5 j u (by simpa using hj)
  ·cases h
theorem quiet_cell {w w':World} {Ds:List Nat} (hD:∀ D∈Ds,w.heap[D]?=some (.deferred (some []))) (hk:Keep w w' (fun b=>b∈Ds)) {a:Addr} {c:Value} (hc:w.cell? a=some c):w'.cell? a=some c:=by
 refine hk.cell (fun h=>?_) hc
 have:=hD _ h
 unfold World.cell? at hc
 rw [this] at hc
 simp at hc
theorem quiet_hrf {w w':World} {S:Nat->Prop} {ρ:Rho} {h:Nat->Option Ob} {Ds:List Nat} (hh:HRF w S ρ h) (hD:∀ D∈Ds,w.heap[D]?=some (.deferred (some []))/\¬ LiveF ρ h All D) (hk:Keep w w' (fun b=>b∈Ds)):HRF w' S ρ h:=by
 refine ⟨fun b hb=>Nat.lt_of_lt_of_le (hh.hS b hb) hk.size,hh.dom,⟨fun i ob hi hg=>?_,hh.at_.dis⟩⟩
 obtain ⟨bk,z,cap,q1,q2⟩:=hh.at_.ob i ob hi hg
 refine ⟨bk,z,cap,q1,q2.mono (fun _ h=>h) (fun a c _ hc=>quiet_cell (fun D h=>(hD D h).1) hk hc) (fun _ _ h=>h) fun b hb hl=>?_⟩
 subst hb
 obtain ⟨g1,g2⟩:=hh.cells_ne hg hl q1
 exact ⟨hk.block b g2 fun hd=>(hD b hd).2 ⟨i,ob,z,cap,trivial,hg,hl,q1⟩,g1⟩
theorem leaves_marks {P:Program} {fn:Func} {tmps:Array Value} {R:Ending->World->Prop}:∀ (Ds:List Nat) (w:World),Ds.Nodup->(∀ D∈Ds,w.heap[D]?=some (.deferred (some []))) →
  (∀ w',Keep w w' (fun b=>b∈Ds)->LeavesIn Fence.wide 0 P fn tmps R [] .returning w')->LeavesInM Fence.wide 0 P fn tmps R (Ds.map fun D=>{ target:=.collected D,args := #[] }) .returning w
 | [],w,_,_,h=>h w (Keep.refl _ _)
 | D::Ds,w,hn,hD,h=>by
  obtain ⟨n1,n2⟩:=List.nodup_cons.1 hn
  have h0:=hD D (by simp)
  have hlt:=(Array.getElem?_eq_some_iff.1 h0).1
  have hk0:Keep w (w.putObj D (.deferred none)) (fun b=>b=D):=⟨rfl,rfl,rfl,by simp,fun k hk hne=>World.putObj_heap_other hne⟩
  refine ⟨by simp,.inl ⟨D,_,rfl,run_takeDeferred h0,leaves_marks Ds _ n2 (fun D' h'=>?_) fun w' hk=>h w' ?_⟩⟩
  ·have hne:D'≠D:=fun e=>n1 (e ▸ h')
   rw [hk0.block D' ((Array.getElem?_eq_some_iff.1 (hD D' (by simp [h']))).1) hne]
   exact hD D' (by simp [h'])
  ·exact (hk0.mono fun b hb=>by simp [hb]).trans hk fun b hb=>.inl (by simp [hb])
theorem fc_of_aw {f:FuncId} {fn:Func} {code:Code} {mc:MC} {args:List AV} {H H':Hp} {r:AV} {al:Bool} (hf:P.funcs[f]?=some fn) (hb:fn.body=some code) (hc:XW P fn.ntmps code=some mc) (hn:args.length<=fn.ntmps)
  (h:AW P fn.ntmps (Qh H) none mc (RetQ P (Qh H) fn.results.toList r H' al) (params args 0) H):FC P f args H r H' al:=by
 intro w S ρ cargs hH hargs
 refine callsIn_wide.1 (callsIn_of_wp_marks (F:=Fence.wide) (n:=0) hf hb trivial ?_)
 have hsz:(cargs++Array.replicate (fn.ntmps-cargs.size) undef).size=fn.ntmps:=by simp [hargs.1]; omega
 have hcf:Conf fn.ntmps (Qh H) (params args 0) H S ρ { tmps:=cargs++Array.replicate (fn.ntmps-cargs.size) undef,defers:=[] } w:=by
  refine ⟨⟨hsz,fun t v hv=>?_⟩,Marks.nil _ _,hH,fun i hi=>QE.1 hi⟩
  obtain ⟨_,h2⟩:=get_params args 0 t v hv
  rw [Nat.sub_zero] at h2
  have hl:t<cargs.size:=by rw [hargs.1]; exact (List.getElem?_eq_some_iff.1 h2).1
  have:=hargs.2 t v h2
  rw [Array.getD_eq_getD_getElem?] at this ⊢
  rw [Array.getElem?_append_left hl]; exact this
 refine wpIn_mono (h code hc S ρ _ w hcf) fun e a' w0 ⟨hfr,F',H'',S',ρ',⟨he,vs,hvs,hrc,hk,hz⟩,cf0,ex0⟩=>?_
 obtain ⟨Ds,d1,d2,d3⟩:=cf0.defers
 suffices hlv:LeavesInM Fence.wide 0 P fn a'.tmps (fun e w'=>∃ cv S' ρ',e = .returned cv/\VR w' S' ρ' r cv/\HRF w' S' ρ' (get H') ∧
   Keep w w' (LiveF ρ (get H) All)/\(∀ b,S' b->(al=true/\S b)\/LiveF ρ (get H) All b\/w.heap.size<=b)/\(∀ b,LiveF ρ' (get H') All b->LiveF ρ (get H) All b\/w.heap.size<=b) ∧
   (∀ i,get H i≠none->ρ' i=ρ i)/\(∀ i,get H i≠none->get H' i≠none)) a'.defers .returning w0 by
  rcases he with rfl | rfl <;> exact hlv
 rw [d1]
 refine leaves_marks Ds w0 d2 (fun D hD=>(d3 D hD).1) fun w' hq=>?_
 have hDs:∀ D∈Ds,w.heap.size<=D:=fun D hD=>by
  rcases hfr.2 { target:=.collected D,args := #[] } (by rw [d1]; exact List.mem_map_of_mem hD) with h | ⟨D',h1,h2⟩
  ·cases h
  ·injection h1 with h1; subst h1; exact h2
 have hcell:∀ (a:Addr) (c:Value),w0.cell? a=some c->w'.cell? a=some c:=fun a c hc=>quiet_cell (fun D h=>(d3 D h).1) hq hc
 have cffr:FRN fn.ntmps w' S' ρ' (get F') a':=⟨cf0.fr.size,fun t v hv=>(cf0.fr.at_ t v hv).mono (fun _ h=>h) (fun a c _ hc=>hcell a c hc) (fun _ _ h=>h)⟩
 have cfhp:HRF w' S' ρ' (get H''):=quiet_hrf cf0.hp d3 hq
 have exkeep:Keep w w' (LiveF ρ (get H) All):=⟨hq.os.trans ex0.keep.os,hq.tape.trans ex0.keep.tape,hq.output.trans ex0.keep.output,Nat.le_trans ex0.keep.size hq.size,fun k hk1 hk2 =>
  (hq.block k (Nat.lt_of_lt_of_le hk1 ex0.keep.size) fun hd=>by have:=hDs k hd; omega).trans (ex0.keep.block k hk1 hk2)⟩
 obtain ⟨cs,g1,g2,g3⟩:=run_resVs (P:=P) cffr cfhp _ vs hvs
 obtain ⟨k1,k2⟩:=hrf_weak hk cfhp
 have hres:∃ cv,(results fn a'.tmps).run P w' = .ok cv w'/\VR w' S' ρ' (resOne vs) cv:=by
  have hm:(fn.results.mapM (rvRun a')).run P w' = .ok cs.toArray w':=by
   rw [Array.mapM_eq_mapM_toList]
   simp only [Sem.run_map,g1,Result.andThen_ok]
  refine ⟨if h:cs.toArray.size=1 then cs.toArray[0] else .tuple cs.toArray,?_,?_⟩
  ·have e0:results fn a'.tmps=(do let vs ← fn.results.mapM (rvRun a'); Pure.pure (if h:vs.size=1 then vs[0] else .tuple vs)):=by
    unfold results
    congr 2
   rw [e0,Sem.run_bind,hm]
   rfl
  ·match vs,cs,g2,g3 with
   | [],[],_,_=>exact .tup [] #[] rfl fun j v h=>by simp at h
   | [v],[c],_,g3 =>
    obtain ⟨c',h1,h2⟩:=g3 0 v rfl
    simp at h1; subst h1
    simpa [resOne] using h2
   | v1::v2::vs,c1::c2::cs,g2,g3 =>
    have hne:¬ ((c1::c2::cs).toArray.size=1):=by simp
    rw [dif_neg hne]
    refine .tup _ _ (by simpa using g2) fun j v hj=>?_
    obtain ⟨c,h1,h2⟩:=g3 j v hj
    have e:(c1::c2::cs).toArray.getD j undef=c:=by
     rw [Array.getD_eq_getD_getElem?,List.getElem?_toArray,h1]; rfl
    rw [e]; exact h2
 obtain ⟨cv,r1,r2⟩:=hres
 have r3:=hrc S' ρ' w' cv cfhp r2
 have hrho:∀ i,get H i≠none->rhoW H'' H' ρ' i=ρ i:=fun i hi=>by
  obtain ⟨ob,z1,z3⟩:=hz i (QE.2 hi)
  rw [rhoW_kept (by rw [z1]; simp) z3]
  exact ex0.rho i (QE.2 hi)
 have post:∃ v,(results fn a'.tmps).run P w' = .ok v w'/\∃ cv S2 ρ2,Ending.returned v = .returned cv/\VR w' S2 ρ2 r cv/\HRF w' S2 ρ2 (get H') ∧
   Keep w w' (LiveF ρ (get H) All)/\(∀ b,S2 b->(al=true/\S b)\/LiveF ρ (get H) All b\/w.heap.size<=b)/\(∀ b,LiveF ρ2 (get H') All b->LiveF ρ (get H) All b\/w.heap.size<=b) ∧
   (∀ i,get H i≠none->ρ2 i=ρ i)/\(∀ i,get H i≠none->get H' i≠none):=by
  refine ⟨cv,r1,cv,_,_,rfl,r3,k1,exkeep,fun b hb=>?_,fun b hb=>?_,hrho,fun i hi=>?_⟩
  ·rcases hb with ⟨ha,hb⟩ | ⟨i,ob,z,cap,_,hg,hl,hr⟩
   ·rcases ex0.fresh b hb with h1 | h1
    ·exact .inl ⟨ha,h1⟩
    ·exact .inr h1
   ·exact .inr (ex0.own b ⟨i,ob,z,cap,trivial,hg,hl,hr⟩)
  ·obtain ⟨i,ob,z,cap,_,hg,hl,hr⟩:=k2 b hb
   exact ex0.own b ⟨i,ob,z,cap,trivial,hg,hl,hr⟩
  ·obtain ⟨ob,z1,_⟩:=hz i (QE.2 hi)
   rw [z1]; simp
 exact post
end
end Go.Proofs.YthfhaoogcpfboaaGreat
namespace Go.Proofs.YthfhaoogcpfboaaGreat
open Go.RowKit
def gOK (F:Fr):Option (Nat×Bool)->Bool
 | none=>true
 | some (t,w)=>match get F t with
  | some (.bool b)=>b == w
  | _=>false
def gNo (F:Fr):Option (Nat×Bool)->Bool
 | none=>false
 | some (t,w)=>match get F t with
  | some (.bool b)=>b == !w
  | some .und=>true
  | _=>false
section
variable {P:Program} {N:Nat} {F:Fr} {H:Hp} {ml:List MOper} {K:List Fp->Fr->Hp->Prop} {d:Nat} {g:Option (Nat×Bool)} {pre:List Nat}
theorem gOK_spec (h:gOK F g=true):g=none\/∃ t want,g=some (t,want)/\get F t=some (.bool want):=by
 cases g with
 | none=>exact .inl rfl
 | some q =>
  obtain ⟨t,w⟩:=q
  simp only [gOK] at h
  split at h
  ·rename_i b hb
   simp at h; subst h
   exact .inr ⟨t,b,rfl,hb⟩
  ·cases h
theorem Xh {mo:MOper} (hg:gOK F mo.guard=true) (h:mev F H (mo.dst.getD 0) (fun v rd wr H1=>RS P N ml (putF F mo.dst v) H1 (fun fps=>K ((rd,wr)::fps))) mo.op):RS P N (mo::ml) F H K :=
 rs_cons fun ops o hc=>by
  obtain ⟨v,rd,wr,H1,hK,hs⟩:=stepM_op hc h (gOK_spec hg)
  exact ⟨v,rd,wr,H1,hs,hK⟩
theorem rs_skip {dst:Option Nat} {op:MOp} (hg:gNo F g=true) (h:RS P N ml (putF F dst .und) H (fun fps=>K (([],[])::fps))):RS P N (⟨dst,op,g,pre⟩::ml) F H K :=
 rs_cons fun ops o hc=>by
  cases g with
  | none=>simp [gNo] at hg
  | some q =>
   obtain ⟨t,w⟩:=q
   refine ⟨.und,[],[],H,stepM_skip hc rfl ?_,h⟩
   simp only [gNo] at hg
   split at hg
   ·rename_i b hb
    simp at hg; subst hg; exact .inl hb
   ·rename_i hb; exact .inr hb
   ·cases hg
theorem rs_bslice {e z len:Nat} {zero l:List AV} {els:List (List AV)} {ps:List (Nat×Arg)} {fl:Bool} (hg:gOK F g=true) (hf:fillS F z (reps len zero) ps=some l) (hz:zero.length=z) (hd:get H d=none) (he:chunks z len l=els) (hfl:Q7 l=fl)
  (h:RS P N ml ((d,.sl d 0 len)::F) ((d,.cells e z els fl)::H) (fun fps=>K (([],[d])::fps))):RS P N (⟨some d,.bslice e z zero len ps,g,pre⟩::ml) F H K :=
 Xh hg (by simp only [mev,hf]; subst he hfl; exact ⟨hz,hd,h⟩)
theorem rs_ld_p {n i j o e z:Nat} {x:Arg} {els:List (List AV)} {fl:Bool} {el:List AV} {v:AV} (hg:gOK F g=true) (hx:Qj F x=some (.ptr i j o)) (hi:get H i=some (.cells e z els fl)) (hj:els[j]?=some el) (hv:el[o]?=some v)
  (h:RS P N ml ((d,v)::F) H (fun fps=>K (([i],[])::fps))):RS P N (⟨some d,.ld false n x,g,pre⟩::ml) F H K :=
 Xh hg (by simp only [mev,hx,hi,hj,hv,Bool.false_eq_true,if_false]; exact h)
theorem rs_ld_pa {n i j o e z:Nat} {x:Arg} {els:List (List AV)} {fl:Bool} {el cs:List AV} (hg:gOK F g=true) (hx:Qj F x=some (.ptr i j o)) (hi:get H i=some (.cells e z els fl)) (hj:els[j]?=some el) (hn:o+n<=el.length) (hc:(el.drop o).take n=cs)
  (h:RS P N ml ((d,.agg cs)::F) H (fun fps=>K (([i],[])::fps))):RS P N (⟨some d,.ld true n x,g,pre⟩::ml) F H K :=
 Xh hg (by simp only [mev,hx,hi,hj,if_true]; subst hc; exact ⟨hn,h⟩)
theorem Q8 {n:Nat} {x:Arg} {cs cs':List AV} (hg:gOK F g=true) (hx:Qj F x=some (.rp cs)) (hn:n<=cs.length) (hc:cs.take n=cs') (h:RS P N ml ((d,.agg cs')::F) H (fun fps=>K (([],[])::fps))) :
  RS P N (⟨some d,.ld true n x,g,pre⟩::ml) F H K :=
 Xh hg (by simp only [mev,hx,if_true]; subst hc; exact ⟨hn,h⟩)
theorem rs_st {n i j o e z:Nat} {x y:Arg} {els els':List (List AV)} {fl fl':Bool} {el cs:List AV} {u:AV} (hg:gOK F g=true) (hx:Qj F x=some (.ptr i j o)) (hy:Qj F y=some u) (hi:get H i=some (.cells e z els fl)) (hc:J8 u=some cs)
  (hj:els[j]?=some el) (hn:cs.length=n) (ho:o+n<=el.length) (he:els.set j (J9 el o cs)=els') (hfl:(fl&&Q7 cs)=fl')
  (h:RS P N ml F ((i,.cells e z els' fl')::H) (fun fps=>K (([],[i])::fps))):RS P N (⟨none,.st n x y,g,pre⟩::ml) F H K :=
 Xh hg (by simp only [mev,hx,hy,hi,hc,hj]; subst he hfl; exact ⟨hn,ho,h⟩)
theorem rs_nilc_p {x:Arg} {i j o:Nat} (hg:gOK F g=true) (hx:Qj F x=some (.ptr i j o)) (h:RS P N ml ((d,.ptr i j o)::F) H (fun fps=>K (([],[])::fps))):RS P N (⟨some d,.nilc x,g,pre⟩::ml) F H K :=
 Xh hg (by simp only [mev,hx]; exact h)
theorem J5 {op:BinOp} {x y:Arg} {k k':IntKind} {a b:Int} (hg:gOK F g=true) (hx:Qj F x=some (.int k a)) (hy:Qj F y=some (.int k' b))
  (h:binV op k k' a b fun v=>RS P N ml ((d,v)::F) H (fun fps=>K (([],[])::fps))):RS P N (⟨some d,.bin op x y,g,pre⟩::ml) F H K :=
 Xh hg (by simp only [mev,hx,hy]; exact h)
theorem wrap64_eq {n:Int} (h : -9223372036854775808<=n/\n<=9223372036854775807):IntKind.i64.wrap n=n:=by rw [IntKind.wrap_i64]; omega
theorem Qf {x y:Arg} {a b:Int} (hg:gOK F g=true) (hx:Qj F x=some (.int .i64 a)) (hy:Qj F y=some (.int .i64 b)) (hr : -9223372036854775808<=a+b/\a+b<=9223372036854775807)
  (h:RS P N ml ((d,.int .i64 (a+b))::F) H (fun fps=>K (([],[])::fps))):RS P N (⟨some d,.bin .add x y,g,pre⟩::ml) F H K :=
 J5 hg hx hy ⟨rfl,by rw [wrap64_eq hr]; exact h⟩
theorem rs_sub {x y:Arg} {a b:Int} (hg:gOK F g=true) (hx:Qj F x=some (.int .i64 a)) (hy:Qj F y=some (.int .i64 b)) (hr : -9223372036854775808<=a-b/\a-b<=9223372036854775807)
  (h:RS P N ml ((d,.int .i64 (a-b))::F) H (fun fps=>K (([],[])::fps))):RS P N (⟨some d,.bin .sub x y,g,pre⟩::ml) F H K :=
 J5 hg hx hy ⟨rfl,by rw [wrap64_eq hr]; exact h⟩
def cmpV (op:BinOp) (a b:Int):Option Prop :=
 match op with
 | .eql=>some (a=b)
 | .neq=>some (a≠b)
 | .lss=>some (a<b)
 | .leq=>some (a<=b)
 | .gtr=>some (b<a)
 | .geq=>some (b<=a)
 | _=>none
theorem QA {op:BinOp} {x y:Arg} {k:IntKind} {a b:Int} {p:Prop} (hg:gOK F g=true) (hx:Qj F x=some (.int k a)) (hy:Qj F y=some (.int k b)) (hop:cmpV op a b=some p) (hp:p)
  (h:RS P N ml ((d,.bool true)::F) H (fun fps=>K (([],[])::fps))):RS P N (⟨some d,.bin op x y,g,pre⟩::ml) F H K :=
 J5 hg hx hy (by
  cases op <;> simp only [cmpV,Option.some.injEq] at hop <;> first | cases hop | skip
  all_goals
   first
    | exact ⟨rfl,by rw [show (a == b)=true by simpa using hp]; exact h⟩
    | exact ⟨rfl,by rw [show (a != b)=true by simpa using hp]; exact h⟩
    | exact ⟨rfl,by rw [show decide (a<b)=true by simpa using hp]; exact h⟩
    | exact ⟨rfl,by rw [show decide (a<=b)=true by simpa using hp]; exact h⟩
    | exact ⟨rfl,by rw [show decide (a>b)=true by simpa using hp]; exact h⟩
    | exact ⟨rfl,by rw [show decide (a ≥ b)=true by simpa using hp]; exact h⟩)
theorem Qp {op:BinOp} {x y:Arg} {k:IntKind} {a b:Int} {p:Prop} (hg:gOK F g=true) (hx:Qj F x=some (.int k a)) (hy:Qj F y=some (.int k b)) (hop:cmpV op a b=some p) (hp:¬ p)
  (h:RS P N ml ((d,.bool false)::F) H (fun fps=>K (([],[])::fps))):RS P N (⟨some d,.bin op x y,g,pre⟩::ml) F H K :=
 J5 hg hx hy (by
  cases op <;> simp only [cmpV,Option.some.injEq] at hop <;> first | cases hop | skip
  all_goals
   first
    | exact ⟨rfl,by rw [show (a == b)=false by simpa using hp]; exact h⟩
    | exact ⟨rfl,by rw [show (a != b)=false by simpa using hp]; exact h⟩
    | exact ⟨rfl,by rw [show decide (a<b)=false by simpa using hp]; exact h⟩
    | exact ⟨rfl,by rw [show decide (a<=b)=false by simpa using hp]; exact h⟩
    | exact ⟨rfl,by rw [show decide (a>b)=false by simpa using hp]; exact h⟩
    | exact ⟨rfl,by rw [show decide (a ≥ b)=false by simpa using hp]; exact h⟩)
theorem JM {x:Arg} {n:Int} (hg:gOK F g=true) (hx:Qj F x=some (.int .i64 n)) (hr : -9223372036854775807<=n/\n<=9223372036854775807) (h:RS P N ml ((d,.int .i64 (-n))::F) H (fun fps=>K (([],[])::fps))):RS P N (⟨some d,.un .neg x,g,pre⟩::ml) F H K :=
 Xh hg (by simp only [mev,hx]; rw [wrap64_eq (by omega),Int.zero_sub]; exact h)
theorem Xc {x:Arg} {k k':IntKind} {n m:Int} (hg:gOK F g=true) (hx:Qj F x=some (.int k' n)) (hw:k.wrap n=m) (h:RS P N ml ((d,.int k m)::F) H (fun fps=>K (([],[])::fps))):RS P N (⟨some d,.cvt k x,g,pre⟩::ml) F H K :=
 Xh hg (by simp only [mev,hx]; subst hw; exact h)
theorem rs_mksl {e z by_:Nat} {zero:List AV} {l c:Arg} {n:Int} (hg:gOK F g=true) (hl:Qj F l=some (.int .i64 n)) (hc:Qj F c=some (.int .i64 n)) (hz:zero.length=z) (hd:get H d=none) (h0:0<=n) (h63:n<=9223372036854775807) (hb:(by_:Int)*n<=281474976710656)
  (h:RS P N ml ((d,.sl d 0 n.toNat)::F) ((d,.cells e z (List.replicate n.toNat zero) true)::H) (fun fps=>K (([],[d])::fps))):RS P N (⟨some d,.mksl e z by_ zero l c,g,pre⟩::ml) F H K :=
 Xh hg (by simp only [mev,hl,hc]; exact ⟨hz,hd,h0,Int.le_refl _,h63,hb,h⟩)
theorem rs_mkslc {e z by_:Nat} {zero:List AV} {l c:Arg} {n q:Int} (hg:gOK F g=true) (hl:Qj F l=some (.int .i64 n)) (hc:Qj F c=some (.int .i64 q)) (hz:zero.length=z) (hd:get H d=none) (h0:0<=n) (hnq:n<=q) (h63:q<=9223372036854775807) (hb:(by_:Int)*q<=281474976710656)
  (h:RS P N ml ((d,.sl d 0 n.toNat)::F) ((d,.cells e z (List.replicate n.toNat zero) true)::H) (fun fps=>K (([],[d])::fps))):RS P N (⟨some d,.mksl e z by_ zero l c,g,pre⟩::ml) F H K :=
 Xh hg (by simp only [mev,hl,hc]; exact ⟨hz,hd,h0,hnq,h63,hb,h⟩)
theorem Ji {z z':Nat} {x:Arg} {lo hi:Option Arg} {els els':List (List AV)} {l q:Int} (hg:gOK F g=true) (hx:Qj F x=some (.rs z' els)) (hl:Xd F 0 lo=some l) (hh:Xd F els.length hi=some q) (hz:z'=z) (h0:0<=l) (h1:l<=q) (h2:q<=els.length)
  (he:(els.drop l.toNat).take (q.toNat-l.toNat)=els') (h:RS P N ml ((d,.rs z els')::F) H (fun fps=>K (([],[])::fps))):RS P N (⟨some d,.slc z x lo hi,g,pre⟩::ml) F H K :=
 Xh hg (by simp only [mev,hx,hl,hh]; subst he; exact ⟨.inl hz,h0,h1,h2,h⟩)
theorem rs_slc_s {z i j n e:Nat} {x:Arg} {lo hi:Option Arg} {els:List (List AV)} {fl:Bool} {l q:Int} (hg:gOK F g=true) (hx:Qj F x=some (.sl i j n)) (hl:Xd F 0 lo=some l) (hh:Xd F n hi=some q) (hi':get H i=some (.cells e z els fl)) (h0:0<=l) (hlq:l=0\/l<q) (h1:l<=q) (h2:q<=n)
  (h:RS P N ml ((d,.sl i (j+l.toNat) (q.toNat-l.toNat))::F) H (fun fps=>K (([i],[])::fps))):RS P N (⟨some d,.slc z x lo hi,g,pre⟩::ml) F H K :=
 Xh hg (by simp only [mev,hx,hl,hh,hi']; exact ⟨trivial,h0,h1,h2,.inl ⟨hlq,h⟩⟩)
theorem rs_slc_e {z i j n e:Nat} {x:Arg} {lo hi:Option Arg} {els:List (List AV)} {fl:Bool} {l:Int} (hg:gOK F g=true) (hx:Qj F x=some (.sl i j n)) (hl:Xd F 0 lo=some l) (hh:Xd F n hi=some l) (hi':get H i=some (.cells e z els fl)) (h0:0<=l) (h2:l<=n)
  (h:RS P N ml ((d,.rs z [])::F) H (fun fps=>K (([i],[])::fps))):RS P N (⟨some d,.slc z x lo hi,g,pre⟩::ml) F H K :=
 Xh hg (by simp only [mev,hx,hl,hh,hi']; exact ⟨trivial,h0,Int.le_refl _,h2,.inr ⟨trivial,h⟩⟩)
theorem rs_slarr {n i j o:Nat} {x:Arg} {lo hi:Option Arg} {l q:Int} (hg:gOK F g=true) (hx:Qj F x=some (.ptr i j o)) (hl:Xd F 0 lo=some l) (hh:Xd F n hi=some q) (h0:0<=l) (hlq:l=0\/l<q) (h1:l<=q) (h2:q<=n)
  (h:RS P N ml ((d,.sa i j (o+l.toNat) (q.toNat-l.toNat))::F) H (fun fps=>K (([],[])::fps))):RS P N (⟨some d,.slarr n x lo hi,g,pre⟩::ml) F H K :=
 Xh hg (by simp only [mev,hx,hl,hh]; exact ⟨h0,hlq,h1,h2,h⟩)
theorem rs_slarr_r {n:Nat} {x:Arg} {lo hi:Option Arg} {cs:List AV} {els:List (List AV)} (hg:gOK F g=true) (hx:Qj F x=some (.rp cs)) (hl:Xd F 0 lo=some 0) (hh:Xd F n hi=some (n:Int)) (hn:n<=cs.length) (h0:n≠0) (he:(cs.take n).map (fun c=>[c])=els)
  (h:RS P N ml ((d,.rs 1 els)::F) H (fun fps=>K (([],[])::fps))):RS P N (⟨some d,.slarr n x lo hi,g,pre⟩::ml) F H K :=
 Xh hg (by subst he; simp only [mev,hx,hl,hh]; exact ⟨trivial,trivial,hn,h0,h⟩)
theorem rs_ix_r {z:Nat} {x i:Arg} {els:List (List AV)} {k:IntKind} {t:Int} {el:List AV} (hg:gOK F g=true) (hx:Qj F x=some (.rs z els)) (hi:Qj F i=some (.int k t)) (h0:0<=t) (h1:t<els.length) (he:els[t.toNat]?=some el)
  (h:RS P N ml ((d,.rp el)::F) H (fun fps=>K (([],[])::fps))):RS P N (⟨some d,.ixsl z x i,g,pre⟩::ml) F H K :=
 Xh hg (by simp only [mev,hx,hi,he]; exact ⟨h0,h1,trivial,h⟩)
theorem JG {z a j n e:Nat} {x i:Arg} {k:IntKind} {t:Int} {els:List (List AV)} {fl:Bool} (hg:gOK F g=true) (hx:Qj F x=some (.sl a j n)) (hi:Qj F i=some (.int k t)) (ha:get H a=some (.cells e z els fl)) (h0:0<=t) (h1:t<n)
  (h:RS P N ml ((d,.ptr a (j+t.toNat) 0)::F) H (fun fps=>K (([a],[])::fps))):RS P N (⟨some d,.ixsl z x i,g,pre⟩::ml) F H K :=
 Xh hg (by simp only [mev,hx,hi,ha]; exact ⟨h0,h1,trivial,h⟩)
theorem Qm {len z a j o:Nat} {x i:Arg} {k:IntKind} {t:Int} (hg:gOK F g=true) (hx:Qj F x=some (.ptr a j o)) (hi:Qj F i=some (.int k t)) (h0:0<=t) (h1:t<len)
  (h:RS P N ml ((d,.ptr a j (o+t.toNat*z))::F) H (fun fps=>K (([],[])::fps))):RS P N (⟨some d,.ixarr len z x i,g,pre⟩::ml) F H K :=
 Xh hg (by simp only [mev,hx,hi]; exact ⟨h0,h1,h⟩)
theorem rs_ixvala {len z:Nat} {x i:Arg} {cs cs':List AV} {k:IntKind} {t:Int} (hg:gOK F g=true) (hx:Qj F x=some (.agg cs)) (hi:Qj F i=some (.int k t)) (h0:0<=t) (h1:t<len) (hn:t.toNat*z+z<=cs.length) (hc:(cs.drop (t.toNat*z)).take z=cs')
  (h:RS P N ml ((d,.agg cs')::F) H (fun fps=>K (([],[])::fps))):RS P N (⟨some d,.ixval len z true x i,g,pre⟩::ml) F H K :=
 Xh hg (by simp only [mev,hx,hi,if_true]; subst hc; exact ⟨h0,h1,hn,h⟩)
theorem rs_len_r {z:Nat} {x:Arg} {els:List (List AV)} {n:Nat} (hg:gOK F g=true) (hx:Qj F x=some (.rs z els)) (hn:els.length=n) (h:RS P N ml ((d,.int .i64 n)::F) H (fun fps=>K (([],[])::fps))):RS P N (⟨some d,.len x,g,pre⟩::ml) F H K :=
 Xh hg (by simp only [mev,hx]; subst hn; exact h)
theorem QC {i j n:Nat} {x:Arg} (hg:gOK F g=true) (hx:Qj F x=some (.sl i j n)) (h:RS P N ml ((d,.int .i64 n)::F) H (fun fps=>K (([],[])::fps))):RS P N (⟨some d,.len x,g,pre⟩::ml) F H K :=
 Xh hg (by simp only [mev,hx]; exact h)
theorem rs_app_n {e z by_ n:Nat} {zero:List AV} {s x:Arg} {v:AV} {rd:List Nat} {news:List (List AV)} {fl:Bool} (hg:gOK F g=true) (hs:Qj F s=some .nils) (hx:Qj F x=some v) (hsrc:JT H z v=some (rd,news)) (hz:zero.length=z) (hd:get H d=none)
  (hn:∀ el∈news,el.length=z) (hl:news.length=n) (hb:n*by_<=140737488355328) (h63:n<=9223372036854775807) (hfl:J3 news=fl)
  (h:RS P N ml ((d,.sl d 0 n)::F) ((d,.cells e z news fl)::H) (fun fps=>K ((rd,[d])::fps))):RS P N (⟨some d,.app e z by_ zero s x,g,pre⟩::ml) F H K :=
 Xh hg (by subst hl hfl; simp only [mev,hs,hx,hsrc]; exact ⟨hz,hd,hn,hb,h63,h⟩)
theorem rs_app {e z by_ i n m:Nat} {zero:List AV} {s x:Arg} {v:AV} {rd:List Nat} {els news:List (List AV)} {fl fl':Bool} (hg:gOK F g=true) (hs:Qj F s=some (.sl i 0 n)) (hx:Qj F x=some v) (hi:get H i=some (.cells e z els fl)) (hsrc:JT H z v=some (rd,news))
  (hz:zero.length=z) (hd:get H d=none) (hl:els.length=n) (hird:i ∉ rd) (hn:∀ el∈news,el.length=z) (hm:news.length=m) (hb:(n+m)*by_<=140737488355328) (h63:n+m<=9223372036854775807) (hfl:(fl&&J3 news)=fl')
  (h:RS P N ml ((d,.sl d 0 (n+m))::F) ((d,.cells e z (els++news) fl')::(i,.dead)::H) (fun fps=>K ((rd,[i,d])::fps))):RS P N (⟨some d,.app e z by_ zero s x,g,pre⟩::ml) F H K :=
 Xh hg (by subst hm hfl; simp only [mev,hs,hx,hi,hsrc]; exact ⟨hz,hd,trivial,trivial,hn,hb,h63,.inl ⟨hl,hird,h⟩⟩)
theorem rs_app_o {e z by_ i n m:Nat} {zero:List AV} {s x:Arg} {v:AV} {rd:List Nat} {els news:List (List AV)} {fl fl':Bool} (hg:gOK F g=true) (hs:Qj F s=some (.sl i 0 n)) (hx:Qj F x=some v) (hi:get H i=some (.cells e z els fl)) (hsrc:JT H z v=some (rd,news))
  (hz:zero.length=z) (hd:get H d=none) (hl:n<=els.length) (hird:∀ k∈rd,k=i) (hn:∀ el∈news,el.length=z) (hm:news.length=m) (hb:(n+m)*by_<=140737488355328) (h63:n+m<=9223372036854775807) (hfl:(fl&&J3 news)=fl')
  (h:RS P N ml ((d,.sl d 0 (n+m))::F) ((d,.cells e z (els.take n++news) fl')::(i,.dead)::H) (fun fps=>K (([],[i,d])::fps))):RS P N (⟨some d,.app e z by_ zero s x,g,pre⟩::ml) F H K :=
 Xh hg (by subst hm hfl; simp only [mev,hs,hx,hi,hsrc]; exact ⟨hz,hd,trivial,trivial,hn,hb,h63,.inr ⟨hl,hird,h⟩⟩)
theorem rs_mn {x y:Arg} {k k':IntKind} {a b c:Int} (hg:gOK F g=true) (hx:Qj F x=some (.int k a)) (hy:Qj F y=some (.int k' b)) (hc:min a b=c) (h:RS P N ml ((d,.int k c)::F) H (fun fps=>K (([],[])::fps))):RS P N (⟨some d,.mn x y,g,pre⟩::ml) F H K :=
 Xh hg (by simp only [mev,hx,hy]; subst hc; exact h)
theorem rs_mx {x y:Arg} {k k':IntKind} {a b c:Int} (hg:gOK F g=true) (hx:Qj F x=some (.int k a)) (hy:Qj F y=some (.int k' b)) (hc:max a b=c) (h:RS P N ml ((d,.int k c)::F) H (fun fps=>K (([],[])::fps))):RS P N (⟨some d,.mx x y,g,pre⟩::ml) F H K :=
 Xh hg (by simp only [mev,hx,hy]; subst hc; exact h)
def HV (H Hs:Hp) (rd:List Nat) (al:Bool) (v v':AV):Prop :=
 ∀ (w:World) (S:Nat->Prop) (ρ:Rho) (c:Value),HRi (fun i=>i∈rd\/get Hs i≠none) w S ρ H->VR w S ρ v c →
  VR w (fun b=>S b\/(al=false/\JI ρ H (fun i=>i∈rd) b)) (fun i=>if get Hs i≠none then ρ i else none) v' c
theorem Qd {Hs:Hp} {rd:List Nat} {al:Bool} {v:AV} (hs:QY (Qh Hs) v=true):HV H Hs rd al v v:=fun w S ρ c _ h =>
 (h.scope hs (fun i hi=>if_pos (QE.1 hi))).mono (fun b hb=>.inl hb) (fun _ _ _ h=>h) (fun _ _ h=>h)
theorem hv_nils {Hs:Hp} {rd:List Nat} {al:Bool} {z:Nat}:HV H Hs rd al .nils (.rs z []):=fun w S ρ c _ h=>by
 rw [h.nils_inv]; exact .cl (.rs0 z none 0)
theorem hv_sl {Hs:Hp} {rd:List Nat} {i e z j n:Nat} {els els':List (List AV)} (hi:i∈rd) (hg:get H i=some (.cells e z els true)) (hb:j+n<=els.length) (he:(els.drop j).take n=els'):HV H Hs rd false (.sl i j n) (.rs z els'):=fun w S ρ c hh hv=>by
 subst he
 have hlen:((els.drop j).take n).length=n:=by simp; omega
 rcases hv.sl_inv with ⟨b,z0,cap,cap',hρ,hjc,hnc,rfl⟩ | ⟨z0,hρ,rfl,rfl,rfl⟩
 ·obtain ⟨bk,z1,c1,q1,hz,q2⟩:=hh.ob i _ (.inl hi) hg
  rw [hρ] at q1
  injection q1 with q1
  obtain ⟨rfl,rfl,rfl⟩:some b=bk/\z0=z1/\cap=c1:=by simpa using q1
  subst hz
  obtain ⟨hs,hm,C,hC,e1,e2,e3,e4⟩:=q2
  have hcell:∀ (q:Nat) (el:List AV) (k:Nat) (u:AV),((els.drop j).take n)[q]?=some el->el[k]?=some u->els[j+q]?=some el:=fun q el k u hq _=>by
   rw [List.getElem?_take] at hq
   split at hq
   ·rw [List.getElem?_drop] at hq; exact hq
   ·cases hq
  have hq:=CR.rs (w:=w) (S:=fun b=>S b\/(false=false/\JI ρ H (fun i=>i∈rd) b)) z ((els.drop j).take n) b (j*z) cap' (fun q k=>C.getD ((j+q)*z+k) undef) (.inr ⟨rfl,i,_,z,cap,hi,hg,rfl,hρ⟩) (by omega)
   (fun q el k u hq hk=>by
    have h1:=hcell q el k u hq hk
    obtain ⟨g1,g2⟩:=e4 (j+q) el k u h1 hk
    have hkz:k<z:=Nat.lt_of_lt_of_le (List.getElem?_eq_some_iff.1 hk).1 (e3 _ el h1)
    have hjl:j+q<els.length:=(List.getElem?_eq_some_iff.1 h1).1
    have hlt:(j+q)*z+k<C.size:=by
     rw [e1]
     calc (j+q)*z+k<(j+q)*z+z:=by omega
      _=(j+q+1)*z:=by rw [Nat.add_mul (j+q),Nat.one_mul]
      _<=cap*z:=Nat.mul_le_mul_right _ (by omega)
    refine ⟨?_,g1⟩
    rw [← Nat.add_mul,cell_of_row w b _ C e (0,0) hC]
    exact getD_some hlt)
   (fun q el k u hq hk=>by
    obtain ⟨_,g2⟩:=e4 (j+q) el k u (hcell q el k u hq hk) hk
    rw [if_pos rfl] at g2
    exact g2.mono (fun b hb=>.inl hb) (fun _ _ _ h=>h))
  rw [hlen] at hq
  exact .cl hq
 ·simp; exact .cl (.rs0 z none 0)
inductive HVs (H Hs:Hp) (rd:List Nat) (al:Bool):List AV->List AV->Prop where
 | nil:HVs H Hs rd al [] []
 | cons {v r:AV} {vs rs:List AV} (h:HV H Hs rd al v r) (hs:HVs H Hs rd al vs rs):HVs H Hs rd al (v::vs) (r::rs)
theorem HVs.at_ {Hs:Hp} {rd:List Nat} {al:Bool} {vs rs:List AV} (h:HVs H Hs rd al vs rs):vs.length=rs.length/\∀ (j:Nat) (r:AV),rs[j]?=some r->∃ v,vs[j]?=some v/\HV H Hs rd al v r:=by
 induction h with
 | nil=>exact ⟨rfl,fun j r h=>by simp at h⟩
 | cons h _ ih =>
  refine ⟨by simp [ih.1],fun j r hj=>?_⟩
  cases j with
  | zero=>simp at hj; subst hj; exact ⟨_,rfl,h⟩
  | succ j=>simpa using ih.2 j r (by simpa using hj)
theorem HVs.hands {Hs:Hp} {rd:List Nat} {al:Bool} {vs rs:List AV} (h:HVs H Hs rd al vs rs):Hands H Hs rd al vs rs:=fun w S ρ C hh hv=>by
 obtain ⟨e1,e2⟩:=h.at_
 refine ⟨by rw [hv.1,e1],fun j r hj=>?_⟩
 obtain ⟨v,g1,g2⟩:=e2 j r hj
 exact g2 w S ρ _ hh (hv.2 j v g1)
def scopedHs (Hs:Hp):Bool:=Hs.all fun x=>Jh (Qh Hs) x.2
theorem scopedHs_spec {Hs:Hp} (h:scopedHs Hs=true):∀ i ob,get Hs i=some ob->Jh (Qh Hs) ob=true:=by
 have key:∀ (A:Hp) (i:Nat) (ob:Ob),get A i=some ob->(i,ob)∈A:=by
  intro A
  induction A with
  | nil=>intro i ob h; simp [get] at h
  | cons x A ih =>
   obtain ⟨k,v⟩:=x
   intro i ob h
   simp only [get] at h
   split at h
   ·rename_i e; subst e; injection h with h; subst h; simp
   ·exact List.mem_cons_of_mem _ (ih i ob h)
 intro i ob hi
 exact List.all_eq_true.1 h (i,ob) (key Hs i ob hi)
theorem rs_call {f:Nat} {as:List Arg} {vs vs':List AV} {rd:List Nat} {r:AV} {H':Hp} (hg:gOK F g=true) (hv:Ul F as=some vs) (hfc:FC P f vs' [] r H' false) (hh:HVs H [] rd false vs vs') (hnew:∀ i,i∈Qh H'->get H i=none)
  (h:RS P N ml ((d,r)::F) (H'++H) (fun fps=>K ((rd,Qh H')::fps))):RS P N (⟨some d,.call f as,g,pre⟩::ml) F H K :=
 rs_cons fun ops o hc=>⟨r,rd,Qh H',H'++H,step_call hc (gOK_spec hg) (enters_call hc rfl hv) hfc hh.hands (fun _=>rfl) (fun i ob h=>by simp [get] at h) (fun i ob h=>by simp [get] at h) (fun i _=>rfl)
  (fun i hi _=>hnew i (QE.2 hi)) (fun i h=>absurd rfl h),h⟩
theorem rs_callm {f:Nat} {as:List Arg} {vs vs':List AV} {r:AV} {Hs H':Hp} (hg:gOK F g=true) (hv:Ul F as=some vs) (hfc:FC P f vs' Hs r H' true) (hh:HVs H Hs [] true vs vs') (hsub:∀ i ob,get Hs i=some ob->get H i=some ob) (hsc:scopedHs Hs=true)
  (hnew:∀ i,get H' i≠none->get Hs i=none->get H i=none) (hdom:∀ i,get Hs i≠none->get H' i≠none)
  (h:RS P N ml ((d,r)::F) (H'++H) (fun fps=>K (([],Qh H')::fps))):RS P N (⟨some d,.call f as,g,pre⟩::ml) F H K :=
 rs_cons fun ops o hc=>⟨r,[],Qh H',H'++H,step_call hc (gOK_spec hg) (enters_call hc rfl hv) hfc hh.hands (fun h=>(by cases h)) hsub (scopedHs_spec hsc) (fun i h=>(by cases h)) hnew hdom,h⟩
theorem rs_callv {fa:Arg} {as:List Arg} {vs cs vs':List AV} {f:FuncId} {dst:Option Nat} {r:AV} {Hs H':Hp} (hg:gOK F g=true) (hf:Qj F fa=some (.fn (.func f) cs)) (hent:entered P f=true) (hv:Ul F as=some vs) (hfc:FC P f vs' Hs r H' true)
  (hh:HVs H Hs [] true (vs++cs) vs') (hsub:∀ i ob,get Hs i=some ob->get H i=some ob) (hsc:scopedHs Hs=true) (hnew:∀ i,get H' i≠none->get Hs i=none->get H i=none) (hdom:∀ i,get Hs i≠none->get H' i≠none)
  (h:RS P N ml (putF F dst r) (H'++H) (fun fps=>K (([],Qh H')::fps))):RS P N (⟨dst,.callv fa as,g,pre⟩::ml) F H K :=
 rs_cons fun ops o hc=>⟨r,[],Qh H',H'++H,step_call hc (gOK_spec hg) (enters_callv hc rfl hf hent hv) hfc hh.hands (fun h=>(by cases h)) hsub (scopedHs_spec hsc) (fun i h=>(by cases h)) hnew hdom,h⟩
end
end Go.Proofs.YthfhaoogcpfboaaGreat
namespace Go.Proofs.YthfhaoogcpfboaaGreat
open Go.RowKit
section
variable {P:Program} {N:Nat} {Z:List Nat} {rn:Option Nat} {Q:Post} {F F0:Fr} {H H0:Hp}
theorem Qo {x:MC} {α:Type} (m:α->Nat) (F0:α->Fr) (H0:α->Hp) (ok:α->Prop) (a:α) (hok:ok a) (hw:Weak N Z F H (F0 a) (H0 a))
  (round:∀ a,ok a->AW P N Z rn x (Then (fun F' H'=>∃ b,ok b/\m b<m a/\Weak N Z F' H' (F0 b) (H0 b)) Q) (F0 a) (H0 a)):AW P N Z rn (.loop x) Q F H:=by
 refine QH hw (aw_loop (fun n F H=>∃ a,ok a/\n=m a/\F=F0 a/\H=H0 a) (m a) ⟨a,hok,rfl,rfl,rfl⟩ ?_)
 rintro n F H ⟨a,hok,rfl,rfl,rfl⟩
 refine aw_mono (round a hok) fun e F' H' q=>?_
 cases e with
 | normal =>
  obtain ⟨b,h1,h2,h3⟩:=q
  exact ⟨m b,F0 b,H0 b,h2,h3,b,h1,rfl,rfl,rfl⟩
 | _=>exact q
inductive KeptHs (H:Hp) (D:List Nat):Hp->Prop where
 | nil:KeptHs H D []
 | keep {i:Nat} {ob:Ob} {H0:Hp} (h:get H i=some ob) (hs:Jh D ob=true) (r:KeptHs H D H0):KeptHs H D ((i,ob)::H0)
 | virt {i e z:Nat} {fl:Bool} {H0:Hp} (h:get H i=none) (r:KeptHs H D H0):KeptHs H D ((i,.cells e z [] fl)::H0)
theorem KeptHs.at_ {D:List Nat} (h:KeptHs H D H0):∀ i ob,get H0 i=some ob->(get H i=some ob/\Jh D ob=true)\/(get H i=none/\∃ e z fl,ob = .cells e z [] fl):=by
 induction h with
 | nil=>intro i ob h; simp [get] at h
 | keep h hs _ ih =>
  intro k o hk
  simp only [get] at hk
  split at hk
  ·rename_i e; subst e; injection hk with hk; subst hk; exact .inl ⟨h,hs⟩
  ·exact ih k o hk
 | virt h _ ih =>
  intro k o hk
  simp only [get] at hk
  split at hk
  ·rename_i e; subst e; injection hk with hk; subst hk; exact .inr ⟨h,_,_,_,rfl⟩
  ·exact ih k o hk
theorem KeptHs.keptH (h:KeptHs H (Qh H0) H0):KeptH H H0 true:=fun i ob hi=>by
 rcases h.at_ i ob hi with ⟨h1,h2⟩ | h
 ·exact .inl ⟨h1,h2,.inl rfl⟩
 ·exact .inr h
theorem Qb (hF:KeptF H H0 F F0) (hH:KeptHs H (Qh H0) H0) (hZ:∀ i,i∈Z->i∈Qh H0):Weak N Z F H F0 H0:=weak_of hF hH.keptH hZ
inductive Ren (i i':Nat):AV->AV->Prop where
 | ptr (j o:Nat):Ren i i' (.ptr i j o) (.ptr i' j o)
 | sl (j n:Nat):Ren i i' (.sl i j n) (.sl i' j n)
 | sa (j o n:Nat):Ren i i' (.sa i j o n) (.sa i' j o n)
 | mp:Ren i i' (.mp i) (.mp i')
 | yl:Ren i i' (.yl i) (.yl i')
 | same (v:AV):Ren i i' v v
inductive RenF (i i':Nat) (F:Fr):Fr->Prop where
 | nil:RenF i i' F []
 | cons {t:Nat} {v v':AV} {F0:Fr} (h:get F t=some v) (hr:Ren i i' v v') (r:RenF i i' F F0):RenF i i' F ((t,v')::F0)
theorem RenF.at_ {i i':Nat} (h:RenF i i' F F0):∀ t v',get F0 t=some v'->∃ v,get F t=some v/\Ren i i' v v':=by
 induction h with
 | nil=>intro t v h; simp [get] at h
 | cons h hr _ ih =>
  intro t' u hu
  simp only [get] at hu
  split at hu
  ·rename_i e; subst e; injection hu with hu; subst hu; exact ⟨_,h,hr⟩
  ·exact ih t' u hu
theorem weak_ren_s {i i':Nat} {ob:Ob} (hi:get H i=some ob) (hi':get H i'=none) (hF:RenF i i' F F0):∀ S ρ a w,Conf N Z F H S ρ a w->∃ S' ρ',Conf N Z F0 ((i',ob)::(i,.dead)::H) S' ρ' a w/\ExtZ Z w S ρ (get H) w S' ρ' (get ((i',ob)::(i,.dead)::H))/\ρ' i'=ρ' i:=fun S ρ a w hc=>by
 have hne:i≠i':=fun e=>by rw [e,hi'] at hi; cases hi
 let ρ':Rho:=fun k=>if k=i' then ρ i else ρ k
 have hρ:∀ k x,ρ k=some x->ρ' k=some x:=fun k x h=>by
  have:k≠i':=fun e=>by rw [e,hc.hp.dom i' hi'] at h; cases h
  simp [ρ',this,h]
 have hg:∀ k,get ((i',ob)::(i,Ob.dead)::H) k=if i'=k then some ob else if i=k then some .dead else get H k:=fun k=>rfl
 -- a live row of the new heap,in the old one
 have live:∀ k o b z c,get ((i',ob)::(i,Ob.dead)::H) k=some o->o.live=true->ρ' k=some (some b,z,c)->∃ k0,(k=i'/\k0=i\/k≠i'/\k≠i/\k0=k)/\get H k0=some o/\ρ k0=some (some b,z,c):=fun k o b z c h1 h2 h3=>by
  rw [hg] at h1
  by_cases e:i'=k
  ·subst e
   simp at h1; subst h1
   exact ⟨i,.inl ⟨rfl,rfl⟩,hi,by simpa [ρ'] using h3⟩
  ·rw [if_neg e] at h1
   by_cases e2:i=k
   ·rw [if_pos e2] at h1; injection h1 with h1; subst h1; simp [Ob.live] at h2
   ·rw [if_neg e2] at h1
    exact ⟨k,.inr ⟨fun h=>e h.symm,fun h=>e2 h.symm,rfl⟩,h1,by simpa [ρ',show ¬ k=i' from fun h=>e h.symm] using h3⟩
 refine ⟨S,ρ',⟨⟨hc.fr.size,fun t v hv=>?_⟩,hc.defers.keep (Keep.refl _ _) (fun b hb=>.inl (by
  obtain ⟨k,o,z,c,_,h1,h2,h3⟩:=hb
  obtain ⟨k0,_,g1,g2⟩:=live k o b z c h1 h2 h3
  exact ⟨k0,o,z,c,trivial,g1,h2,g2⟩)),⟨hc.hp.hS,fun k hk=>?_,⟨fun k o _ hk=>?_,fun k j ok oj b z z' c c' _ _ hkj hgk hgj hlk hlj hrk hrj=>?_⟩⟩,fun k hk=>?_⟩,⟨Keep.refl _ _,fun b hb=>hb,fun b hb=>.inl hb,fun b hb=>?_,fun k hk=>?_⟩,by simp [ρ',hne]⟩
 ·obtain ⟨u,h1,h2⟩:=hF.at_ t v hv
  have h3:=hc.fr.at_ t u h1
  generalize a.tmps.getD t undef=cv at h3 ⊢
  cases h2 with
  | ptr j o =>
   obtain ⟨b,z,cap,q1,q2⟩:=h3.ptr_inv
   rw [q2]
   exact .ptr i' j o b z cap (by simpa [ρ'] using q1)
  | sl j n =>
   rcases h3.sl_inv with ⟨b,z,cap,cap',q1,q2,q3,q4⟩ | ⟨z,q1,q2,q3,q4⟩
   ·rw [q4]; exact .sl i' j n b z cap cap' (by simpa [ρ'] using q1) q2 q3
   ·subst q2 q3; rw [q4]; exact .sl0 i' z (by simpa [ρ'] using q1)
  | sa j o n =>
   cases h3 with
   | cl h=>cases h
   | sa _ _ _ _ b z cap cap' q1 q2=>exact .sa i' j o n b z cap cap' (by simpa [ρ'] using q1) q2
  | mp =>
   cases h3 with
   | cl h=>cases h
   | mp _ b z cap q1=>exact .mp i' b z cap (by simpa [ρ'] using q1)
  | yl =>
   cases h3 with
   | cl h=>cases h
   | yl _ b z cap q1=>exact .yl i' b z cap (by simpa [ρ'] using q1)
  | same=>exact h3.mono (fun _ h=>h) (fun _ _ _ h=>h) hρ
 ·rw [hg] at hk
  split at hk
  ·cases hk
  ·rename_i e
   split at hk
   ·cases hk
   ·simpa [ρ',show ¬ k=i' from fun h=>e h.symm] using hc.hp.dom k hk
 ·have mono:∀ (o:Ob) (bk:Option Nat) (z cap:Nat),(∀ b,bk=some b->o.live=true->¬ S b)->OR w S ρ o bk z cap->OR w S ρ' o bk z cap:=fun o bk z cap hb h =>
   OR.mono (fun _ h=>h) (fun _ _ _ h=>h) hρ (fun b e hl=>⟨rfl,hb b e hl⟩) h
  rw [hg] at hk
  by_cases e:i'=k
  ·subst e
   simp at hk; subst hk
   obtain ⟨bk,z,cap,q1,q2⟩:=hc.hp.at_.ob i ob trivial hi
   exact ⟨bk,z,cap,by simpa [ρ'] using q1,mono ob bk z cap (fun b e hl=>(hc.hp.cells_ne hi hl (by rw [q1,e])).1) q2⟩
  ·rw [if_neg e] at hk
   by_cases e2:i=k
   ·rw [if_pos e2] at hk; injection hk with hk; subst hk e2
    obtain ⟨bk,z,cap,q1,q2⟩:=hc.hp.at_.ob i ob trivial hi
    exact ⟨bk,z,cap,by simpa [ρ',hne] using q1,trivial⟩
   ·rw [if_neg e2] at hk
    obtain ⟨bk,z,cap,q1,q2⟩:=hc.hp.at_.ob k o trivial hk
    exact ⟨bk,z,cap,by simpa [ρ',show ¬ k=i' from fun h=>e h.symm] using q1,mono o bk z cap (fun b e hl=>(hc.hp.cells_ne hk hl (by rw [q1,e])).1) q2⟩
 ·obtain ⟨k0,a1,a2,a3⟩:=live k ok b z c hgk hlk hrk
  obtain ⟨j0,b1,b2,b3⟩:=live j oj b z' c' hgj hlj hrj
  refine hc.hp.at_.dis k0 j0 ok oj b z z' c c' trivial trivial ?_ a2 b2 hlk hlj a3 b3
  rcases a1 with ⟨rfl,rfl⟩ | ⟨a1,a4,rfl⟩ <;> rcases b1 with ⟨rfl,rfl⟩ | ⟨b1,b4,rfl⟩
  ·exact absurd rfl hkj
  ·exact fun e=>b4 e.symm
  ·exact a4
  ·exact hkj
 ·rw [hg]
  split
  ·simp
  ·split
   ·simp
   ·exact hc.z k hk
 ·obtain ⟨k,o,z,cap,_,h1,h2,h3⟩:=hb
  obtain ⟨k0,_,a2,a3⟩:=live k o b z cap h1 h2 h3
  exact .inl ⟨k0,o,z,cap,trivial,a2,h2,a3⟩
 ·have:k≠i':=fun e=>hc.z k hk (by rw [e]; exact hi')
  simp [ρ',this]
theorem weak_ren {i i':Nat} {ob:Ob} (hi:get H i=some ob) (hi':get H i'=none) (hF:RenF i i' F F0):Weak N Z F H F0 ((i',ob)::(i,.dead)::H):=fun S ρ a w hc=>by
 obtain ⟨S',ρ',h1,h2,_⟩:=weak_ren_s (Z:=Z) hi hi' hF S ρ a w hc
 exact ⟨S',ρ',h1,h2⟩
theorem QB {i i':Nat} {ob:Ob} {F1:Fr} {H1:Hp} (hF:KeptF H H1 F F1) (hH:KeptHs H (Qh H1) H1) (hZ:∀ k,k∈Z->k∈Qh H1)
  (hi:get H1 i=some ob) (hi':get H1 i'=none) (hR:RenF i i' F1 F0) (hF2:KeptF ((i',ob)::(i,.dead)::H1) H0 F0 F0) (hH2:KeptHs ((i',ob)::(i,.dead)::H1) (Qh H0) H0) (hZ2:∀ k,k∈Z->k∈Qh H0):Weak N Z F H F0 H0 :=
 (Qb hF hH hZ).trans ((weak_ren hi hi' hR).trans (Qb hF2 hH2 hZ2))
end
end Go.Proofs.YthfhaoogcpfboaaGreat
namespace Go.Proofs.YthfhaoogcpfboaaGreat
open Go.RowKit
section
variable {P:Program} {N:Nat} {Z:List Nat} {rn:Option Nat} {Q:Post} {F:Fr} {H:Hp} {ml:List MOper} {K:List Fp->Fr->Hp->Prop} {d:Nat} {g:Option (Nat×Bool)} {pre:List Nat}
theorem Jk {rs:List ResultVar} {r:AV} {vs:List AV} {al:Bool} (h:resVs P F H rs=some vs) (hr:resOne vs=r) (hs:QY [] r=true) (hn:al=true\/noRO r=true):RetQ P [] rs r [] al .ret F H :=
 ⟨.inr rfl,vs,h,by rw [hr]; exact Qs hs hn,keptH_nil,fun i hi=>by cases hi⟩
section bin
variable {x y:Arg} {k:IntKind} {a b c:Int}
theorem rs_leq (hg:gOK F g=true) (hx:Qj F x=some (.int k a)) (hy:Qj F y=some (.int k b)) (h:RS P N ml ((d,.bool (decide (a<=b)))::F) H (fun fps=>K (([],[])::fps))):RS P N (⟨some d,.bin .leq x y,g,pre⟩::ml) F H K:=J5 hg hx hy ⟨rfl,h⟩
theorem Ua (hg:gOK F g=true) (hx:Qj F x=some (.int k a)) (hy:Qj F y=some (.int k b)) (h:RS P N ml ((d,.bool (decide (a>b)))::F) H (fun fps=>K (([],[])::fps))):RS P N (⟨some d,.bin .gtr x y,g,pre⟩::ml) F H K:=J5 hg hx hy ⟨rfl,h⟩
theorem XZ (hg:gOK F g=true) (hx:Qj F x=some (.int k a)) (hy:Qj F y=some (.int k b)) (h:RS P N ml ((d,.bool (decide (a ≥ b)))::F) H (fun fps=>K (([],[])::fps))):RS P N (⟨some d,.bin .geq x y,g,pre⟩::ml) F H K:=J5 hg hx hy ⟨rfl,h⟩
theorem Ub (hg:gOK F g=true) (hx:Qj F x=some (.int k a)) (hy:Qj F y=some (.int k b)) (h:RS P N ml ((d,.bool (decide (a=b)))::F) H (fun fps=>K (([],[])::fps))):RS P N (⟨some d,.bin .eql x y,g,pre⟩::ml) F H K :=
 J5 hg hx hy ⟨rfl,by rw [show (a == b)=decide (a=b) from rfl]; exact h⟩
theorem Xv (hg:gOK F g=true) (hx:Qj F x=some (.int k a)) (hy:Qj F y=some (.int k b)) (h:RS P N ml ((d,.bool (decide (a≠b)))::F) H (fun fps=>K (([],[])::fps))):RS P N (⟨some d,.bin .neq x y,g,pre⟩::ml) F H K :=
 J5 hg hx hy ⟨rfl,by
  rw [show (a != b)=decide (a≠b) by by_cases e:a=b <;> simp [e]]; exact h⟩
theorem rs_and (hg:gOK F g=true) (hx:Qj F x=some (.int k a)) (hy:Qj F y=some (.int k b)) (hc:bits .and k a b=c) (h:RS P N ml ((d,.int k c)::F) H (fun fps=>K (([],[])::fps))):RS P N (⟨some d,.bin .and x y,g,pre⟩::ml) F H K:=J5 hg hx hy ⟨rfl,by rw [hc]; exact h⟩
theorem rs_or (hg:gOK F g=true) (hx:Qj F x=some (.int k a)) (hy:Qj F y=some (.int k b)) (hc:bits .or k a b=c) (h:RS P N ml ((d,.int k c)::F) H (fun fps=>K (([],[])::fps))):RS P N (⟨some d,.bin .or x y,g,pre⟩::ml) F H K:=J5 hg hx hy ⟨rfl,by rw [hc]; exact h⟩
theorem QS (hg:gOK F g=true) (hx:Qj F x=some (.int k a)) (hy:Qj F y=some (.int k b)) (hc:k.wrap (a+b)=c) (h:RS P N ml ((d,.int k c)::F) H (fun fps=>K (([],[])::fps))):RS P N (⟨some d,.bin .add x y,g,pre⟩::ml) F H K:=J5 hg hx hy ⟨rfl,by rw [hc]; exact h⟩
theorem Xt (hg:gOK F g=true) (hx:Qj F x=some (.int k a)) (hy:Qj F y=some (.int k b)) (hc:k.wrap (a-b)=c) (h:RS P N ml ((d,.int k c)::F) H (fun fps=>K (([],[])::fps))):RS P N (⟨some d,.bin .sub x y,g,pre⟩::ml) F H K:=J5 hg hx hy ⟨rfl,by rw [hc]; exact h⟩
theorem Q4 (hg:gOK F g=true) (hx:Qj F x=some (.int k a)) (hy:Qj F y=some (.int k b)) (hc:k.wrap (a*b)=c) (h:RS P N ml ((d,.int k c)::F) H (fun fps=>K (([],[])::fps))):RS P N (⟨some d,.bin .mul x y,g,pre⟩::ml) F H K:=J5 hg hx hy ⟨rfl,by rw [hc]; exact h⟩
theorem QR (hg:gOK F g=true) (hx:Qj F x=some (.int k a)) (hy:Qj F y=some (.int k b)) (h0:b≠0) (hc:k.wrap (a.tdiv b)=c) (h:RS P N ml ((d,.int k c)::F) H (fun fps=>K (([],[])::fps))):RS P N (⟨some d,.bin .quo x y,g,pre⟩::ml) F H K:=J5 hg hx hy ⟨rfl,h0,by rw [hc]; exact h⟩
theorem XA (hg:gOK F g=true) (hx:Qj F x=some (.int k a)) (hy:Qj F y=some (.int k b)) (h0:b≠0) (hc:a.tmod b=c) (h:RS P N ml ((d,.int k c)::F) H (fun fps=>K (([],[])::fps))):RS P N (⟨some d,.bin .rem x y,g,pre⟩::ml) F H K:=J5 hg hx hy ⟨rfl,h0,by rw [hc]; exact h⟩
theorem rs_shl {k':IntKind} (hg:gOK F g=true) (hx:Qj F x=some (.int k a)) (hy:Qj F y=some (.int k' b)) (h0:0<=b) (hc:k.wrap (a*2^min b.toNat k.bits)=c) (h:RS P N ml ((d,.int k c)::F) H (fun fps=>K (([],[])::fps))):RS P N (⟨some d,.bin .shl x y,g,pre⟩::ml) F H K:=J5 hg hx hy ⟨h0,by rw [hc]; exact h⟩
theorem Jt {k':IntKind} (hg:gOK F g=true) (hx:Qj F x=some (.int k a)) (hy:Qj F y=some (.int k' b)) (h0:0<=b) (hc:a.fdiv (2^min b.toNat k.bits)=c) (h:RS P N ml ((d,.int k c)::F) H (fun fps=>K (([],[])::fps))):RS P N (⟨some d,.bin .shr x y,g,pre⟩::ml) F H K:=J5 hg hx hy ⟨h0,by rw [hc]; exact h⟩
end bin
section lists
variable {α:Type} {f:α->List AV} {xs:List α} {z e:Nat} {x i:Arg} {t:Nat} {k:IntKind} {fl:Bool}
theorem Qe (hg:gOK F g=true) (hx:Qj F x=some (.rs z (xs.map f))) (h:RS P N ml ((d,.int .i64 xs.length)::F) H (fun fps=>K (([],[])::fps))):RS P N (⟨some d,.len x,g,pre⟩::ml) F H K:=rs_len_r hg hx (by simp) h
theorem rs_ix_m (hg:gOK F g=true) (hx:Qj F x=some (.rs z (xs.map f))) (hi:Qj F i=some (.int k (t:Int))) (ht:t<xs.length)
  (h:RS P N ml ((d,.rp (f xs[t]))::F) H (fun fps=>K (([],[])::fps))):RS P N (⟨some d,.ixsl z x i,g,pre⟩::ml) F H K:=rs_ix_r hg hx hi (by omega) (by simpa using ht) (by simp [ht]) h
theorem rs_ix_sm {a n:Nat} (hg:gOK F g=true) (hx:Qj F x=some (.sl a 0 n)) (hi:Qj F i=some (.int k (t:Int))) (ha:get H a=some (.cells e z (xs.map f) fl)) (ht:t<n)
  (h:RS P N ml ((d,.ptr a t 0)::F) H (fun fps=>K (([a],[])::fps))):RS P N (⟨some d,.ixsl z x i,g,pre⟩::ml) F H K:=JG hg hx hi ha (by omega) (by omega) (by simpa using h)
theorem rs_st_m {a n o:Nat} {y:Arg} {u:AV} {cs:List AV} {v:α} {fl':Bool} (hg:gOK F g=true) (hx:Qj F x=some (.ptr a t o)) (hy:Qj F y=some u) (ha:get H a=some (.cells e z (xs.map f) fl)) (ht:t<xs.length) (hc:J8 u=some cs) (hn:cs.length=n)
  (ho:o+n<=(f xs[t]).length) (he:J9 (f xs[t]) o cs=f v) (hfl:(fl&&Q7 cs)=fl') (h:RS P N ml F ((a,.cells e z ((xs.set t v).map f) fl')::H) (fun fps=>K (([],[a])::fps))):RS P N (⟨none,.st n x y,g,pre⟩::ml) F H K :=
 rs_st hg hx hy ha hc (el:=f xs[t]) (by simp [ht]) hn ho (by rw [he,List.map_set]) hfl h
theorem Qq {by_ a n:Nat} {zero:List AV} {s:Arg} {v:AV} {rd:List Nat} {y:α} {fl':Bool} (hg:gOK F g=true) (hs:Qj F s=some (.sl a 0 n)) (hx:Qj F x=some v) (ha:get H a=some (.cells e z (xs.map f) fl)) (hn:xs.length=n) (hsrc:JT H z v=some (rd,[f y]))
  (hz:zero.length=z) (hd:get H d=none) (hird:a ∉ rd) (hl:(f y).length=z) (hb:(n+1)*by_<=140737488355328) (h63:n+1<=9223372036854775807) (hfl:(fl&&Q7 (f y))=fl')
  (h:RS P N ml ((d,.sl d 0 (n+1))::F) ((d,.cells e z ((xs++[y]).map f) fl')::(a,.dead)::H) (fun fps=>K ((rd,[a,d])::fps))):RS P N (⟨some d,.app e z by_ zero s x,g,pre⟩::ml) F H K :=
 rs_app (fl':=fl') hg hs hx ha hsrc hz hd (by simpa using hn) hird (by simpa using hl) rfl hb h63 (by rw [← hfl]; simp [J3]) (by simpa using h)
theorem rs_app_nm {by_ n:Nat} {zero:List AV} {s:Arg} {v:AV} {rd:List Nat} (hg:gOK F g=true) (hs:Qj F s=some .nils) (hx:Qj F x=some v) (hsrc:JT H z v=some (rd,xs.map f)) (hz:zero.length=z) (hd:get H d=none)
  (hl:∀ y,(f y).length=z) (hn:xs.length=n) (hb:n*by_<=140737488355328) (h63:n<=9223372036854775807) (hfl:∀ y,Q7 (f y)=true)
  (h:RS P N ml ((d,.sl d 0 n)::F) ((d,.cells e z (xs.map f) true)::H) (fun fps=>K ((rd,[d])::fps))):RS P N (⟨some d,.app e z by_ zero s x,g,pre⟩::ml) F H K :=
 rs_app_n hg hs hx hsrc hz hd (by simp [hl]) (by simpa using hn) hb h63 (by
  clear h hsrc hn
  induction xs with
  | nil=>rfl
  | cons y ys ih=>simp [J3,hfl] at ih ⊢; exact ih) h
end lists
theorem Qx {op:BinOp} {x y:Arg} {k:IntKind} {a b:Int} {p:Prop} (hg:gOK F g=true) (hx:Qj F x=some (.int k a)) (hy:Qj F y=some (.int k b)) (hop:cmpV op a b=some p)
  (h1:p->RS P N ml ((d,.bool true)::F) H (fun fps=>K (([],[])::fps))) (h2:¬ p->RS P N ml ((d,.bool false)::F) H (fun fps=>K (([],[])::fps))):RS P N (⟨some d,.bin op x y,g,pre⟩::ml) F H K:=by
 by_cases h:p
 ·exact QA hg hx hy hop h (h1 h)
 ·exact Qp hg hx hy hop h (h2 h)
theorem Qg {f:FuncId} {fn:Func} {mc:MC} {nt:Nat} {rs:List ResultVar} {args:List AV} {H':Hp} {r:AV} {al:Bool} (hf:P.funcs[f]?=some fn) (hn:fn.ntmps=nt) (hr:fn.results.toList=rs)
  (hm:(match fn.body with | some c=>XW P nt c | none=>none)=some mc) (hl:args.length<=nt) (h:AW P nt (Qh H) none mc (RetQ P (Qh H) rs r H' al) (params args 0) H):FC P f args H r H' al:=by
 subst hn hr
 split at hm
 ·rename_i c hb
  exact fc_of_aw hf hb hm hl h
 ·cases hm
abbrev ci (n:Int):List AV:=[.int .i64 n]
end
end Go.Proofs.YthfhaoogcpfboaaGreat
namespace Go.Proofs.YthfhaoogcpfboaaGreat
open Go.RowKit
def swp (a b:Nat) (k:Nat):Nat:=if k=a then b else if k=b then a else k
theorem swp_swp (a b k:Nat):swp a b (swp a b k)=k:=by
 unfold swp
 split
 ·rename_i h; subst h
  split
  ·rename_i h; exact h
  ·simp
 ·rename_i h1
  split
  ·rename_i h2; subst h2; simp
  ·simp
inductive RenV (σ:Nat->Nat):AV->AV->Prop where
 | closed {v:AV} (h:QY [] v=true):RenV σ v v
 | ptr {i i' j o:Nat} (h:σ i=i'):RenV σ (.ptr i j o) (.ptr i' j o)
 | sl {i i' j n:Nat} (h:σ i=i'):RenV σ (.sl i j n) (.sl i' j n)
 | sa {i i' j o n:Nat} (h:σ i=i'):RenV σ (.sa i j o n) (.sa i' j o n)
 | mp {i i':Nat} (h:σ i=i'):RenV σ (.mp i) (.mp i')
 | yl {i i':Nat} (h:σ i=i'):RenV σ (.yl i) (.yl i')
 | fn {f:Fn} {cs cs':List AV} (hl:cs.length=cs'.length) (h:∀ (j:Nat) (v v':AV),cs[j]?=some v->cs'[j]?=some v'->RenV σ v v'):RenV σ (.fn f cs) (.fn f cs')
 | agg {cs cs':List AV} (hl:cs.length=cs'.length) (h:∀ (j:Nat) (v v':AV),cs[j]?=some v->cs'[j]?=some v'->RenV σ v v'):RenV σ (.agg cs) (.agg cs')
 | tup {cs cs':List AV} (hl:cs.length=cs'.length) (h:∀ (j:Nat) (v v':AV),cs[j]?=some v->cs'[j]?=some v'->RenV σ v v'):RenV σ (.tup cs) (.tup cs')
theorem RenV.symm {σ:Nat->Nat} (hσ:∀ k,σ (σ k)=k) {v v':AV} (h:RenV σ v v'):RenV σ v' v:=by
 induction h with
 | closed h=>exact .closed h
 | ptr h=>exact .ptr (by rw [← h,hσ])
 | sl h=>exact .sl (by rw [← h,hσ])
 | sa h=>exact .sa (by rw [← h,hσ])
 | mp h=>exact .mp (by rw [← h,hσ])
 | yl h=>exact .yl (by rw [← h,hσ])
 | fn hl _ ih=>exact .fn hl.symm fun j v v' h1 h2=>ih j v' v h2 h1
 | agg hl _ ih=>exact .agg hl.symm fun j v v' h1 h2=>ih j v' v h2 h1
 | tup hl _ ih=>exact .tup hl.symm fun j v v' h1 h2=>ih j v' v h2 h1
theorem VR.ren {w:World} {S:Nat->Prop} {ρ ρ':Rho} {σ:Nat->Nat} (hρ:∀ i,ρ' (σ i)=ρ i) {v v':AV} (h:RenV σ v v'):∀ {c:Value},VR w S ρ v c->VR w S ρ' v' c:=by
 have key:∀ {cs cs':List AV} {C:Array Value},cs.length=cs'.length->(∀ (j:Nat) (v v':AV),cs[j]?=some v->cs'[j]?=some v'->∀ {c:Value},VR w S ρ v c->VR w S ρ' v' c) →
   (∀ j v,cs[j]?=some v->VR w S ρ v (C.getD j undef))->∀ j v',cs'[j]?=some v'->VR w S ρ' v' (C.getD j undef):=fun {cs cs' C} hl ih h j v' hj=>by
  have hlt:j<cs.length:=by rw [hl]; exact (List.getElem?_eq_some_iff.1 hj).1
  exact ih j _ v' (List.getElem?_eq_getElem hlt) hj (h j _ (List.getElem?_eq_getElem hlt))
 induction h with
 | closed h=>intro c hv; exact hv.scope h (fun i hi=>by cases hi)
 | ptr h =>
  rename_i i i' j o
  intro c hv
  obtain ⟨b,z,cap,q1,rfl⟩:=hv.ptr_inv
  exact .ptr i' j o b z cap (by rw [← h,hρ]; exact q1)
 | sl h =>
  rename_i i i' j n
  intro c hv
  rcases hv.sl_inv with ⟨b,z,cap,cap',q1,q2,q3,rfl⟩ | ⟨z,q1,rfl,rfl,rfl⟩
  ·exact .sl i' j n b z cap cap' (by rw [← h,hρ]; exact q1) q2 q3
  ·exact .sl0 i' z (by rw [← h,hρ]; exact q1)
 | sa h =>
  rename_i i i' j o n
  intro c hv
  cases hv with
  | cl h=>cases h
  | sa _ _ _ _ b z cap cap' q1 q2=>exact .sa i' j o n b z cap cap' (by rw [← h,hρ]; exact q1) q2
 | mp h =>
  rename_i i i'
  intro c hv
  cases hv with
  | cl h=>cases h
  | mp _ b z cap q1=>exact .mp i' b z cap (by rw [← h,hρ]; exact q1)
 | yl h =>
  rename_i i i'
  intro c hv
  cases hv with
  | cl h=>cases h
  | yl _ b z cap q1=>exact .yl i' b z cap (by rw [← h,hρ]; exact q1)
 | fn hl _ ih =>
  intro c hv
  obtain ⟨C,rfl,hn,h2⟩:=hv.fn_inv
  exact .fn _ _ C (by rw [hn,hl]) (key hl ih h2)
 | agg hl _ ih =>
  intro c hv
  obtain ⟨C,rfl,hn,h1,h2⟩:=hv.agg_inv
  refine .agg _ C (by rw [hn,hl]) (fun j v' hj=>?_) (key hl ih h2)
  rename_i cs cs' _
  have hlt:j<cs.length:=by rw [hl]; exact (List.getElem?_eq_some_iff.1 hj).1
  exact h1 j _ (List.getElem?_eq_getElem hlt)
 | tup hl _ ih =>
  intro c hv
  obtain ⟨C,rfl,hn,h2⟩:=hv.tup_inv
  exact .tup _ C (by rw [hn,hl]) (key hl ih h2)
inductive RenOb (σ:Nat->Nat):Ob->Ob->Prop where
 | dead:RenOb σ .dead .dead
 | mset {ks:List (List Int)}:RenOb σ (.mset ks) (.mset ks)
 | glob {g:Nat} {cs:List AV}:RenOb σ (.glob g cs) (.glob g cs)
 | flat {e z:Nat} {els:List (List AV)}:RenOb σ (.cells e z els true) (.cells e z els true)
 | cells {e z:Nat} {els els':List (List AV)} {fl:Bool} (hl:els.length=els'.length)
   (h:∀ (j:Nat) (el el':List AV),els[j]?=some el->els'[j]?=some el'->el.length=el'.length/\∀ (o:Nat) (v v':AV),el[o]?=some v->el'[o]?=some v'->RenV σ v v'):RenOb σ (.cells e z els false) (.cells e z els' false)
theorem RenOb.symm {σ:Nat->Nat} (hσ:∀ k,σ (σ k)=k) {o o':Ob} (h:RenOb σ o o'):RenOb σ o' o:=by
 cases h with
 | dead=>exact .dead
 | mset=>exact .mset
 | glob=>exact .glob
 | flat=>exact .flat
 | cells hl h =>
  refine .cells (fl:=false) hl.symm fun j el el' h1 h2=>?_
  obtain ⟨g1,g2⟩:=h j el' el h2 h1
  exact ⟨g1.symm,fun o v v' k1 k2=>(g2 o v' v k2 k1).symm hσ⟩
theorem RenOb.live {σ:Nat->Nat} {o o':Ob} (h:RenOb σ o o'):o'.live=o.live:=by cases h <;> rfl
theorem OR.ren {w:World} {S:Nat->Prop} {ρ ρ':Rho} {σ:Nat->Nat} (hρ:∀ i,ρ' (σ i)=ρ i) {o o':Ob} (hr:RenOb σ o o') {bk:Option Nat} {z cap:Nat} (h:OR w S ρ o bk z cap):OR w S ρ' o' bk z cap:=by
 cases hr with
 | dead=>trivial
 | mset=>exact h
 | glob=>exact h
 | flat =>
  obtain ⟨hz,h⟩:=h
  refine ⟨hz,?_⟩
  cases bk with
  | none=>exact h
  | some b =>
   obtain ⟨h0,hm,C,hC,h1,h2,h3,h4⟩:=h
   exact ⟨h0,hm,C,hC,h1,h2,h3,fun j el o v he hv=>by
    obtain ⟨q1,q2⟩:=h4 j el o v he hv
    rw [if_pos rfl] at q2 ⊢
    exact ⟨q1,q2⟩⟩
 | cells hl hc =>
  rename_i e z0 els els' _
  obtain ⟨hz,h⟩:=h
  refine ⟨hz,?_⟩
  cases bk with
  | none =>
   obtain ⟨rfl,h2⟩:=h
   exact ⟨List.length_eq_zero_iff.1 hl.symm,h2⟩
  | some b =>
   obtain ⟨h0,hm,C,hC,h1,h2,h3,h4⟩:=h
   have bk_:∀ (j:Nat) (el':List AV),els'[j]?=some el'->∃ el,els[j]?=some el/\el.length=el'.length/\∀ (o:Nat) (v v':AV),el[o]?=some v->el'[o]?=some v'->RenV σ v v':=fun j el' hj=>by
    have hlt:j<els.length:=by rw [hl]; exact (List.getElem?_eq_some_iff.1 hj).1
    exact ⟨_,List.getElem?_eq_getElem hlt,hc j _ el' (List.getElem?_eq_getElem hlt) hj⟩
   refine ⟨h0,hm,C,hC,h1,by rw [← hl]; exact h2,fun j el' hj=>?_,fun j el' o v' he hv=>?_⟩
   ·obtain ⟨el,g1,g2,_⟩:=bk_ j el' hj
    rw [← g2]; exact h3 j el g1
   ·obtain ⟨el,g1,g2,g3⟩:=bk_ j el' he
    have hlt:o<el.length:=by rw [g2]; exact (List.getElem?_eq_some_iff.1 hv).1
    obtain ⟨q1,q2⟩:=h4 j el o _ g1 (List.getElem?_eq_getElem hlt)
    rw [if_neg (by simp)] at q2 ⊢
    exact ⟨q1,VR.ren hρ (g3 o _ v' (List.getElem?_eq_getElem hlt) hv) q2⟩
inductive RenH (σ:Nat->Nat):Hp->Hp->Prop where
 | nil:RenH σ [] []
 | cons {i i':Nat} {o o':Ob} {H H':Hp} (h:σ i=i') (ho:RenOb σ o o') (r:RenH σ H H'):RenH σ ((i,o)::H) ((i',o')::H')
theorem RenH.symm {σ:Nat->Nat} (hσ:∀ k,σ (σ k)=k) {H H':Hp} (h:RenH σ H H'):RenH σ H' H:=by
 induction h with
 | nil=>exact .nil
 | cons h ho _ ih=>exact .cons (by rw [← h,hσ]) (ho.symm hσ) ih
theorem RenH.at_ {σ:Nat->Nat} (hσ:∀ k,σ (σ k)=k) {H H':Hp} (h:RenH σ H H'):∀ k,(get H k=none/\get H' (σ k)=none)\/∃ o o',get H k=some o/\get H' (σ k)=some o'/\RenOb σ o o':=by
 induction h with
 | nil=>intro k; exact .inl ⟨rfl,rfl⟩
 | cons h ho _ ih =>
  rename_i i i' o o' H H' _
  intro k
  subst h
  simp only [get]
  by_cases e:i=k
  ·subst e; rw [if_pos rfl,if_pos rfl]; exact .inr ⟨o,o',rfl,rfl,ho⟩
  ·rw [if_neg e,if_neg (fun e2=>e (by rw [← hσ i,e2,hσ]))]; exact ih k
theorem HRF.ren {w:World} {S:Nat->Prop} {ρ ρ':Rho} {σ:Nat->Nat} (hσ:∀ k,σ (σ k)=k) (hρ:∀ i,ρ' (σ i)=ρ i) {H H':Hp} (hr:RenH σ H H') (h:HRF w S ρ (get H)):HRF w S ρ' (get H'):=by
 have hρ':∀ i,ρ' i=ρ (σ i):=fun i=>by rw [← hρ (σ i),hσ]
 have back:∀ k o',get H' k=some o'->∃ o,get H (σ k)=some o/\RenOb σ o o':=fun k o' hk=>by
  rcases hr.at_ hσ (σ k) with ⟨_,h2⟩ | ⟨o,o1,h1,h2,h3⟩
  ·rw [hσ,hk] at h2; cases h2
  ·rw [hσ,hk] at h2; injection h2 with h2; subst h2; exact ⟨o,h1,h3⟩
 refine ⟨h.hS,fun i hi=>?_,⟨fun i o' _ hi=>?_,fun i j oi oj b z z' c c' _ _ hne hi hj hli hlj hri hrj=>?_⟩⟩
 ·rw [hρ']
  apply h.dom
  rcases hr.at_ hσ (σ i) with ⟨h1,_⟩ | ⟨o,o1,_,h2,_⟩
  ·exact h1
  ·rw [hσ,hi] at h2; cases h2
 ·obtain ⟨o,g1,g2⟩:=back i o' hi
  obtain ⟨bk,z,cap,q1,q2⟩:=h.at_.ob _ o trivial g1
  exact ⟨bk,z,cap,by rw [hρ']; exact q1,q2.ren hρ g2⟩
 ·obtain ⟨a,g1,g2⟩:=back i oi hi
  obtain ⟨b',g3,g4⟩:=back j oj hj
  refine h.at_.dis (σ i) (σ j) a b' b z z' c c' trivial trivial (fun e=>hne (by rw [← hσ i,e,hσ])) g1 g3 (by rw [← g2.live]; exact hli) (by rw [← g4.live]; exact hlj) (by rw [← hρ']; exact hri) (by rw [← hρ']; exact hrj)
theorem LiveF.ren {ρ ρ':Rho} {σ:Nat->Nat} (hσ:∀ k,σ (σ k)=k) (hρ:∀ i,ρ' (σ i)=ρ i) {H H':Hp} (hr:RenH σ H H') {b:Nat} (h:LiveF ρ (get H) All b):LiveF ρ' (get H') All b:=by
 obtain ⟨i,o,z,cap,_,h1,h2,h3⟩:=h
 rcases hr.at_ hσ i with ⟨g1,_⟩ | ⟨o1,o',g1,g2,g3⟩
 ·rw [h1] at g1; cases g1
 ·rw [h1] at g1; injection g1 with g1; subst g1
  exact ⟨σ i,o',z,cap,trivial,g2,by rw [g3.live]; exact h2,by rw [hρ]; exact h3⟩
inductive RenVs (σ:Nat->Nat):List AV->List AV->Prop where
 | nil:RenVs σ [] []
 | cons {v v':AV} {l l':List AV} (h:RenV σ v v') (r:RenVs σ l l'):RenVs σ (v::l) (v'::l')
theorem RenVs.at_ {σ:Nat->Nat} {l l':List AV} (h:RenVs σ l l'):l.length=l'.length/\∀ (j:Nat) (v v':AV),l[j]?=some v->l'[j]?=some v'->RenV σ v v':=by
 induction h with
 | nil=>exact ⟨rfl,fun j v v' h=>by simp at h⟩
 | cons h _ ih =>
  refine ⟨by simp [ih.1],fun j v v' h1 h2=>?_⟩
  cases j with
  | zero=>simp at h1 h2; subst h1 h2; exact h
  | succ j=>exact ih.2 j v v' (by simpa using h1) (by simpa using h2)
theorem fc_ren {P:Program} {f:FuncId} {args args':List AV} {H H1 H' H1':Hp} {r r1:AV} {al:Bool} (σ:Nat->Nat) (hσ:∀ k,σ (σ k)=k) (h:FC P f args H r H' al) (ha:RenVs σ args args') (hH:RenH σ H H1) (hr:RenV σ r r1) (hH':RenH σ H' H1'):FC P f args' H1 r1 H1' al:=by
 intro w S ρ cargs hh hv
 have e1:∀ i,(fun k=>ρ (σ k)) (σ i)=ρ i:=fun i=>by simp [hσ]
 obtain ⟨hl,hat⟩:=ha.at_
 refine Calls.mono (h w S (fun k=>ρ (σ k)) cargs (hh.ren hσ e1 (hH.symm hσ)) ⟨by rw [hv.1,hl],fun j v hj=>?_⟩) fun e w' ⟨cv,S',ρ',q1,q2,q3,q4,q5,q6,q7,q8⟩=>?_
 ·have hlt:j<args'.length:=by rw [← hl]; exact (List.getElem?_eq_some_iff.1 hj).1
  exact VR.ren (σ:=σ) e1 ((hat j v _ hj (List.getElem?_eq_getElem hlt)).symm hσ) (hv.2 j _ (List.getElem?_eq_getElem hlt))
 ·have e2:∀ i,(fun k=>ρ' (σ k)) (σ i)=ρ' i:=fun i=>by simp [hσ]
  have e3:∀ i,ρ' (σ i)=(fun k=>ρ' (σ k)) i:=fun i=>rfl
  have e4:∀ i,ρ (σ i)=(fun k=>ρ (σ k)) i:=fun i=>rfl
  have back:∀ i,get H1 i≠none->get H (σ i)≠none:=fun i hi h0=>by
   rcases hH.at_ hσ (σ i) with ⟨_,g2⟩ | ⟨o,o',g1,_,_⟩
   ·rw [hσ] at g2; exact hi g2
   ·rw [h0] at g1; cases g1
  refine ⟨cv,S',fun k=>ρ' (σ k),q1,VR.ren (σ:=σ) e2 hr q2,q3.ren hσ e2 hH',q4.mono fun b hb=>hb.ren hσ e4 hH,fun b hb=>(q5 b hb).imp id fun h=>h.imp (fun hb=>hb.ren hσ e4 hH) id,fun b hb=>?_,fun i hi=>?_,fun i hi=>?_⟩
  ·exact (q6 b (hb.ren hσ e3 (hH'.symm hσ))).imp (fun hb=>hb.ren hσ e4 hH) id
  ·show ρ' (σ i)=ρ i
   rw [q7 (σ i) (back i hi)]
   show ρ (σ (σ i))=ρ i
   rw [hσ]
  ·have:=q8 (σ i) (back i hi)
   rcases hH'.at_ hσ (σ i) with ⟨g1,_⟩ | ⟨o,o',_,g2,_⟩
   ·exact absurd g1 this
   ·rw [hσ] at g2; rw [g2]; simp
end Go.Proofs.YthfhaoogcpfboaaGreat
namespace Go.Proofs.YthfhaoogcpfboaaGreat
open Go.RowKit
section
variable {P:Program} {N:Nat} {Z:List Nat} {rn:Option Nat} {Q:Post} {F F0:Fr} {H H0:Hp} {ml:List MOper} {K:List Fp->Fr->Hp->Prop} {d:Nat} {g:Option (Nat×Bool)} {pre:List Nat}
theorem rc_int {k:IntKind} {a b:Int} (h:a=b) {al:Bool}:RC H H0 al (.int k a) (.int k b):=by
 subst h; exact Qs rfl (.inr rfl)
theorem JU {a b:AV} (h:a=b) (hs:QY (Qh H0) b=true):RC H H0 true a b:=by
 subst h; exact Qs hs (.inl rfl)
def B8 (l:List Int):Prop:=∀ x∈l,0<=x/\x<256
theorem strN_size (l:List Int):(strN l).size=l.length:=by simp [strN,ByteArray.size]
theorem strN_toList (l:List Int):(strN l).toList=l.map fun n=>UInt8.ofNat n.toNat:=by rw [ByteArray.toList_eq]; simp [strN]
theorem strN_app (a b:List Int):strN a++strN b=strN (a++b):=by
 apply ByteArray.ext
 simp [ByteArray.data_append,strN]
theorem u8_back {x:Int} (h:0<=x/\x<256):((UInt8.ofNat x.toNat).toNat:Int)=x:=by
 rw [UInt8.toNat_ofNat']
 have:x.toNat % 2^8=x.toNat:=Nat.mod_eq_of_lt (by omega)
 rw [this]; omega
theorem strN_inj {a b:List Int} (ha:B8 a) (hb:B8 b):((strN a).toList == (strN b).toList)=decide (a=b):=by
 rw [strN_toList,strN_toList]
 have key:∀ (a b:List Int),B8 a->B8 b->(a.map fun n=>UInt8.ofNat n.toNat)=(b.map fun n=>UInt8.ofNat n.toNat)->a=b:=by
  intro a
  induction a with
  | nil=>intro b _ _ h; cases b with | nil=>rfl | cons y b=>simp at h
  | cons x a ih =>
   intro b ha hb h
   cases b with
   | nil=>simp at h
   | cons y b =>
    simp only [List.map_cons,List.cons.injEq] at h
    have h1:=u8_back (ha x (by simp))
    have h2:=u8_back (hb y (by simp))
    rw [h.1] at h1
    rw [ih b (fun z hz=>ha z (by simp [hz])) (fun z hz=>hb z (by simp [hz])) h.2]
    congr 1
    omega
 by_cases e:a=b
 ·subst e; simp
 ·have:(a.map fun n=>UInt8.ofNat n.toNat)≠(b.map fun n=>UInt8.ofNat n.toNat):=fun h=>e (key a b ha hb h)
  rw [decide_eq_false e]
  simpa using this
theorem rowS_strN {l:List Int} (h:B8 l):rowS (strN l)=l.map fun n=>[.int .u8 n]:=by
 unfold rowS
 rw [strN_toList,List.map_map]
 refine List.map_congr_left fun x hx=>?_
 simp only [Function.comp]
 rw [u8_back (h x hx)]
theorem byteE_map (l:List Int):byteE (l.map fun n=>[AV.int .u8 n])=some l:=by
 induction l with
 | nil=>rfl
 | cons x l ih=>simp [byteE,ih]
theorem bytesV_rs (l:List Int):bytesV H (.rs 1 (l.map fun n=>[.int .u8 n]))=some ([],l):=by simp [bytesV,byteE_map]
theorem bytesV_sl {i e n:Nat} {fl:Bool} {l:List Int} (h:get H i=some (.cells e 1 (l.map fun n=>[.int .u8 n]) fl)) (hn:l.length=n):bytesV H (.sl i 0 n)=some ([i],l):=by
 subst hn
 simp only [bytesV,h,List.length_map,Nat.zero_add,Nat.le_refl,if_true,List.drop_zero]
 rw [List.take_of_length_le (by simp),byteE_map]
 rfl
theorem rs_slen {x:Arg} {l:List Int} (hg:gOK F g=true) (hx:Qj F x=some (.str (strN l))) (h:RS P N ml ((d,.int .i64 l.length)::F) H (fun fps=>K (([],[])::fps))):RS P N (⟨some d,.slen x,g,pre⟩::ml) F H K :=
 Xh hg (by simp only [mev,hx,strN_size]; exact h)
theorem Jj {x y:Arg} {a b c:List Int} (hg:gOK F g=true) (hx:Qj F x=some (.str (strN a))) (hy:Qj F y=some (.str (strN b))) (hl:a.length+b.length<=9223372036854775807) (hc:a++b=c) (h:RS P N ml ((d,.str (strN c))::F) H (fun fps=>K (([],[])::fps))) :
  RS P N (⟨some d,.scat x y,g,pre⟩::ml) F H K :=
 Xh hg (by subst hc; simp only [mev,hx,hy,strN_size,strN_app]; exact ⟨hl,h⟩)
theorem rs_seq {neg r:Bool} {x y:Arg} {a b:List Int} (hg:gOK F g=true) (hx:Qj F x=some (.str (strN a))) (hy:Qj F y=some (.str (strN b))) (ha:B8 a) (hb:B8 b) (hr:(neg != decide (a=b))=r) (h:RS P N ml ((d,.bool r)::F) H (fun fps=>K (([],[])::fps))) :
  RS P N (⟨some d,.seq neg x y,g,pre⟩::ml) F H K :=
 Xh hg (by subst hr; simp only [mev,hx,hy,strN_inj ha hb]; exact h)
theorem rs_aeqx {neg r:Bool} {ks:List Nat} {x y:Arg} {as bs:List AV} (la lb:List Sc) (hg:gOK F g=true) (hx:Qj F x=some (.agg as)) (hy:Qj F y=some (.agg bs)) (ha:scL as=some la) (hb:scL bs=some lb) (h1:scK la=ks) (h2:scK lb=ks) (hr:(neg != decide (la=lb))=r)
  (h:RS P N ml ((d,.bool r)::F) H (fun fps=>K (([],[])::fps))):RS P N (⟨some d,.aeqx neg ks x y,g,pre⟩::ml) F H K :=
 Xh hg (by subst hr; simp only [mev,hx,hy,ha,hb]; exact ⟨h1,h2,h⟩)
theorem rs_b2s {x:Arg} {v:AV} {rd:List Nat} {l:List Int} (hg:gOK F g=true) (hx:Qj F x=some v) (hb:bytesV H v=some (rd,l)) (h:RS P N ml ((d,.str (strN l))::F) H (fun fps=>K ((rd,[])::fps))):RS P N (⟨some d,.b2s x,g,pre⟩::ml) F H K :=
 Xh hg (by simp only [mev,hx,hb]; exact h)
theorem rs_s2b {x:Arg} {l:List Int} (hg:gOK F g=true) (hx:Qj F x=some (.str (strN l))) (hl:B8 l) (h:RS P N ml ((d,.rs 1 (l.map fun n=>[.int .u8 n]))::F) H (fun fps=>K (([],[])::fps))):RS P N (⟨some d,.s2b x,g,pre⟩::ml) F H K :=
 Xh hg (by simp only [mev,hx,rowS_strN hl]; exact h)
theorem rs_stake {x i:Arg} {k:IntKind} {n:Int} {l c:List Int} (hg:gOK F g=true) (hx:Qj F x=some (.str (strN l))) (hi:Qj F i=some (.int k n)) (h0:0<=n) (hn:n<=l.length) (hc:l.take n.toNat=c) (h:RS P N ml ((d,.str (strN c))::F) H (fun fps=>K (([],[])::fps))) :
  RS P N (⟨some d,.stake x i,g,pre⟩::ml) F H K :=
 Xh hg (by
  subst hc
  have e:(strN l).extract 0 n.toNat=strN (l.take n.toNat):=by
   apply ByteArray.ext
   apply Array.ext'
   simp [strN,ByteArray.data_extract]
  simp only [mev,hx,hi,strN_size,e]; exact ⟨h0,hn,h⟩)
theorem rs_sidx {x i:Arg} {k:IntKind} {n y:Int} {l:List Int} (hg:gOK F g=true) (hx:Qj F x=some (.str (strN l))) (hi:Qj F i=some (.int k n)) (h0:0<=n) (hy:l[n.toNat]?=some y) (h8:0<=y/\y<256) (h:RS P N ml ((d,.int .u8 y)::F) H (fun fps=>K (([],[])::fps))) :
  RS P N (⟨some d,.sidx x i,g,pre⟩::ml) F H K :=
 Xh hg (by
  have e:(strN l).toList[n.toNat]?=some (UInt8.ofNat y.toNat):=by rw [strN_toList,List.getElem?_map,hy]; rfl
  simp only [mev,hx,hi,e,u8_back h8]; exact ⟨h0,h⟩)
theorem rs_mkmap (hg:gOK F g=true) (hd:get H d=none) (h:RS P N ml ((d,.mp d)::F) ((d,.mset [])::H) (fun fps=>K (([],[d])::fps))):RS P N (⟨some d,.mkmap,g,pre⟩::ml) F H K :=
 Xh hg (by simp only [mev]; exact ⟨hd,h⟩)
theorem rs_mapadd {m k v:Arg} {i nk:Nat} {cs:List AV} {l:List Int} {ks:List (List Int)} (hg:gOK F g=true) (hm:Qj F m=some (.mp i)) (hk:Qj F k=some (.agg cs)) (hv:Qj F v=some (.bool true)) (hi:get H i=some (.mset ks)) (hl:Uh cs=some l) (hn:l.length=nk) (hks:∀ q∈ks,q.length=nk) (hno:l ∉ ks)
  (h:RS P N ml F ((i,.mset (ks++[l]))::H) (fun fps=>K (([],[i])::fps))):RS P N (⟨none,.mapadd nk m k v,g,pre⟩::ml) F H K :=
 Xh hg (by simp only [mev,hm,hk,hv,hi,hl]; exact ⟨hn,hks,hno,h⟩)
theorem rs_mhas {m k:Arg} {i nk:Nat} {cs:List AV} {l:List Int} {ks:List (List Int)} (hg:gOK F g=true) (hm:Qj F m=some (.mp i)) (hk:Qj F k=some (.agg cs)) (hi:get H i=some (.mset ks)) (hl:Uh cs=some l) (hn:l.length=nk) (hks:∀ q∈ks,q.length=nk)
  (h:RS P N ml ((d,.bool (decide (l∈ks)))::F) H (fun fps=>K (([i],[])::fps))):RS P N (⟨some d,.mhas nk m k,g,pre⟩::ml) F H K :=
 Xh hg (by simp only [mev,hm,hk,hi,hl]; exact ⟨hn,hks,h⟩)
theorem flat_map {α:Type} {f:α->List AV} (hf:∀ x,Q7 (f x)=true):∀ xs:List α,J3 (xs.map f)=true
 | []=>rfl
 | x::xs=>by
  have:=flat_map hf xs
  simp only [List.map_cons,J3,hf,Bool.true_and]
  exact this
section
variable {α:Type} {f:α->List AV} {ys xs:List α} {z e:Nat} {x:Arg}
theorem XO {by_ a n:Nat} {zero:List AV} {s:Arg} {v:AV} {rd:List Nat} (hg:gOK F g=true) (hs:Qj F s=some (.sl a 0 0)) (hx:Qj F x=some v) (ha:get H a=some (.cells e z [] true)) (hsrc:JT H z v=some (rd,ys.map f))
  (hz:zero.length=z) (hd:get H d=none) (hird:a ∉ rd) (hl:∀ y,(f y).length=z) (hn:ys.length=n) (hb:n*by_<=140737488355328) (h63:n<=9223372036854775807) (hfl:∀ y,Q7 (f y)=true)
  (h:RS P N ml ((d,.sl d 0 n)::F) ((d,.cells e z (ys.map f) true)::(a,.dead)::H) (fun fps=>K ((rd,[a,d])::fps))):RS P N (⟨some d,.app e z by_ zero s x,g,pre⟩::ml) F H K :=
 rs_app (m:=n) (fl':=true) hg hs hx ha hsrc hz hd rfl hird (by simp [hl]) (by simpa using hn) (by simpa using hb) (by simpa using h63) (by rw [flat_map hfl]; rfl) (by simpa using h)
theorem Ju {by_ a n m:Nat} {zero:List AV} {s:Arg} {v:AV} {rd:List Nat} (hg:gOK F g=true) (hs:Qj F s=some (.sl a 0 n)) (hx:Qj F x=some v) (ha:get H a=some (.cells e z (xs.map f) true)) (hsrc:JT H z v=some (rd,ys.map f))
  (hz:zero.length=z) (hd:get H d=none) (hird:a ∉ rd) (hl:∀ y,(f y).length=z) (hn:xs.length=n) (hm:ys.length=m) (hb:(n+m)*by_<=140737488355328) (h63:n+m<=9223372036854775807) (hfl:∀ y,Q7 (f y)=true)
  (h:RS P N ml ((d,.sl d 0 (n+m))::F) ((d,.cells e z ((xs++ys).map f) true)::(a,.dead)::H) (fun fps=>K ((rd,[a,d])::fps))):RS P N (⟨some d,.app e z by_ zero s x,g,pre⟩::ml) F H K :=
 rs_app (m:=m) (fl':=true) hg hs hx ha hsrc hz hd (by simpa using hn) hird (by simp [hl]) (by simpa using hm) hb h63 (by rw [flat_map hfl]; rfl) (by simpa using h)
end
inductive SubH (H:Hp):Hp->Prop where
 | nil:SubH H []
 | cons {i:Nat} {ob:Ob} {Hs:Hp} (h:get H i=some ob) (r:SubH H Hs):SubH H ((i,ob)::Hs)
theorem SubH.at_ {Hs:Hp} (h:SubH H Hs):∀ i ob,get Hs i=some ob->get H i=some ob:=by
 induction h with
 | nil=>intro i ob h; simp [get] at h
 | cons h _ ih =>
  intro k o hk
  simp only [get] at hk
  split at hk
  ·rename_i e; subst e; injection hk with hk; subst hk; exact h
  ·exact ih k o hk
def newOk (H Hs H':Hp):Bool:=(Qh H').all fun i=>(Qh Hs).contains i||(get H i).isNone
def domOk (Hs H':Hp):Bool:=(Qh Hs).all fun i=>(Qh H').contains i
theorem newOk_spec {Hs H':Hp} (h:newOk H Hs H'=true):∀ i,get H' i≠none->get Hs i=none->get H i=none:=fun i h1 h2=>by
 have:=List.all_eq_true.1 h i (QE.2 h1)
 rcases Bool.or_eq_true _ _ ▸ this with h | h
 ·exact absurd h2 (QE.1 (by simpa using h))
 ·simpa using h
theorem domOk_spec {Hs H':Hp} (h:domOk Hs H'=true):∀ i,get Hs i≠none->get H' i≠none:=fun i h1=>by
 have:=List.all_eq_true.1 h i (QE.2 h1)
 exact QE.1 (by simpa using this)
theorem Qr {f:Nat} {as:List Arg} {vs vs':List AV} {r:AV} (Hs:Hp) {H':Hp} (hg:gOK F g=true) (hv:Ul F as=some vs) (hfc:FC P f vs' Hs r H' true) (hh:HVs H Hs [] true vs vs') (hsub:SubH H Hs) (hsc:scopedHs Hs=true)
  (hnew:newOk H Hs H'=true) (hdom:domOk Hs H'=true) (h:RS P N ml ((d,r)::F) (H'++H) (fun fps=>K (([],Qh H')::fps))):RS P N (⟨some d,.call f as,g,pre⟩::ml) F H K :=
 rs_callm hg hv hfc hh hsub.at_ hsc (newOk_spec hnew) (domOk_spec hdom) h
theorem QD {f:Nat} {as:List Arg} {vs vs':List AV} (rd:List Nat) {r:AV} {H':Hp} (hg:gOK F g=true) (hv:Ul F as=some vs) (hfc:FC P f vs' [] r H' false) (hh:HVs H [] rd false vs vs') (hnew:newOk H [] H'=true)
  (h:RS P N ml ((d,r)::F) (H'++H) (fun fps=>K ((rd,Qh H')::fps))):RS P N (⟨some d,.call f as,g,pre⟩::ml) F H K :=
 rs_call hg hv hfc hh (fun i hi=>newOk_spec hnew i (QE.1 hi) rfl) h
inductive ZL (H H':Hp):List Nat->Prop where
 | nil:ZL H H' []
 | cons {i:Nat} {Z:List Nat} {ob ob2:Ob} (h:get H' i=some ob) (hl:ob.live=true) (h2:get H i=some ob2) (r:ZL H H' Z):ZL H H' (i::Z)
 | dead {i:Nat} {Z:List Nat} {ob ob2:Ob} (h:get H' i=some ob) (h2:get H i=some ob2) (r:ZL H H' Z):ZL H H' (i::Z)
theorem ZL.at_ {H':Hp} (h:ZL H H' Z):∀ i,i∈Z->∃ ob,get H' i=some ob/\get H i≠none:=by
 induction h with
 | nil=>intro i h; cases h
 | cons h hl h2 _ ih =>
  intro i hi
  rcases List.mem_cons.1 hi with rfl | hi
  ·exact ⟨_,h,by rw [h2]; simp⟩
  ·exact ih i hi
 | dead h h2 _ ih =>
  intro i hi
  rcases List.mem_cons.1 hi with rfl | hi
  ·exact ⟨_,h,by rw [h2]; simp⟩
  ·exact ih i hi
theorem ret_own {rs:List ResultVar} {r:AV} {vs:List AV} {H':Hp} (h:resVs P F H rs=some vs) (hr:RC H H' true (resOne vs) r) (hk:KeptHs H (Qh H') H') (hz:ZL H H' Z):RetQ P Z rs r H' true .ret F H :=
 ⟨.inr rfl,vs,h,hr,hk.keptH,hz.at_⟩
def noROE:List (List AV)->Bool
 | []=>true
 | e::r=>noROL e&&noROE r
theorem noROE_mem:∀ {els:List (List AV)},noROE els=true->∀ el∈els,∀ v∈el,noRO v=true
 | e::r,h,el,he,v,hv=>by
  simp only [noROE,Bool.and_eq_true] at h
  rcases List.mem_cons.1 he with rfl | he
  ·exact Uf h.1 hv
  ·exact noROE_mem h.2 el he v hv
theorem Jg {α:Type} {f:α->List AV} (hf:∀ x,noROL (f x)=true):∀ xs:List α,noROE (xs.map f)=true
 | []=>rfl
 | x::xs=>by simp only [List.map_cons,noROE,hf,Jg hf xs,Bool.and_self]
inductive KeptHr (H:Hp) (D:List Nat):Hp->Prop where
 | nil:KeptHr H D []
 | keep {i e z:Nat} {els:List (List AV)} {fl:Bool} {H0:Hp} (h:get H i=some (.cells e z els fl)) (hs:Jh D (.cells e z els fl)=true) (hn:noROE els=true) (r:KeptHr H D H0):KeptHr H D ((i,.cells e z els fl)::H0)
 | virt {i e z:Nat} {fl:Bool} {H0:Hp} (h:get H i=none) (r:KeptHr H D H0):KeptHr H D ((i,.cells e z [] fl)::H0)
theorem KeptHr.at_ {D:List Nat} (h:KeptHr H D H0) {al:Bool}:∀ i ob,get H0 i=some ob->(get H i=some ob/\Jh D ob=true/\(al=true\/(((∀ r Fl,ob ≠ .lp r Fl)/\∀ g cs,ob ≠ .glob g cs)/\∀ e z els fl,ob = .cells e z els fl->∀ el∈els,∀ v∈el,noRO v=true)))\/(get H i=none/\∃ e z fl,ob = .cells e z [] fl):=by
 induction h with
 | nil=>intro i ob h; simp [get] at h
 | keep h hs hn _ ih =>
  intro k o hk
  simp only [get] at hk
  split at hk
  ·rename_i e; subst e; injection hk with hk; subst hk
   refine .inl ⟨h,hs,.inr ⟨⟨(fun r Fl h=>by cases h),fun g cs h=>by cases h⟩,fun e z els fl he=>?_⟩⟩
   injection he with e1 e2 e3 e4; subst e3
   exact noROE_mem hn
  ·exact ih k o hk
 | virt h _ ih =>
  intro k o hk
  simp only [get] at hk
  split at hk
  ·rename_i e; subst e; injection hk with hk; subst hk; exact .inr ⟨h,_,_,_,rfl⟩
  ·exact ih k o hk
theorem Ql {rs:List ResultVar} {r:AV} {vs:List AV} {H':Hp} {al:Bool} (h:resVs P F H rs=some vs) (hr:RC H H' al (resOne vs) r) (hk:KeptHr H (Qh H') H'):RetQ P [] rs r H' al .ret F H :=
 ⟨.inr rfl,vs,h,hr,fun i ob hi=>hk.at_ i ob hi,fun i hi=>by cases hi⟩
end
end Go.Proofs.YthfhaoogcpfboaaGreat
namespace Go.Proofs.YthfhaoogcpfboaaGreat
open Go.RowKit
theorem Q5 {α:Type} {f:α->List AV} {xs:List α} {H H0:Hp} {al:Bool} {i e z n:Nat} (h:get H i=some (.cells e z (xs.map f) true)) (h0:get H0 i=none) (hn:xs.length=n) (hf:∀ x,noROL (f x)=true):RC H H0 al (.sl i 0 n) (.rs z (xs.map f)):=by
 have:=rc_freeze (al:=al) (j:=0) (n:=n) h h0 (by simp; omega) (.inr fun el he v hv=>noROE_mem (Jg hf xs) el he v hv)
 rwa [List.drop_zero,List.take_of_length_le (by simp; omega)] at this
end Go.Proofs.YthfhaoogcpfboaaGreat
namespace Go.Proofs.YthfhaoogcpfboaaGreat
open Go.RowKit
section
variable {P:Program} {N:Nat} {Z:List Nat} {rn:Option Nat} {Q:Post} {F F0:Fr} {H H0:Hp} {ml:List MOper} {K:List Fp->Fr->Hp->Prop} {d:Nat} {g:Option (Nat×Bool)} {pre:List Nat}
theorem rs_aeq {neg:Bool} {n:Nat} {x y:Arg} {as bs:List AV} (la lb:List Int) {b:Bool} (hg:gOK F g=true) (hx:Qj F x=some (.agg as)) (hy:Qj F y=some (.agg bs)) (ha:Uh as=some la) (hb:Uh bs=some lb) (hla:la.length=n) (hlb:lb.length=n) (hbb:(neg != decide (la=lb))=b)
  (h:RS P N ml ((d,.bool b)::F) H (fun fps=>K (([],[])::fps))):RS P N (⟨some d,.aeq neg n x y,g,pre⟩::ml) F H K :=
 Xh hg (by simp only [mev,hx,hy,ha,hb]; subst hbb; exact ⟨hla,hlb,h⟩)
theorem rs_mkbnd {f:Nat} {x:Arg} {v:AV} (hg:gOK F g=true) (hx:Qj F x=some v) (h:RS P N ml ((d,.bnd (.func f) v)::F) H (fun fps=>K (([],[])::fps))):RS P N (⟨some d,.mkbnd f x,g,pre⟩::ml) F H K :=
 Xh hg (by simp only [mev,hx]; exact h)
theorem rs_callb {x:Arg} {as:List Arg} {v:AV} {vs vs':List AV} {f:FuncId} {dst:Option Nat} {r:AV} (Hs:Hp) {H':Hp} (hg:gOK F g=true) (hx:Qj F x=some (.bnd (.func f) v)) (hent:entered P f=true) (hv:Ul F as=some vs) (hfc:FC P f vs' Hs r H' true)
  (hh:HVs H Hs [] true (v::vs) vs') (hsub:SubH H Hs) (hsc:scopedHs Hs=true) (hnew:newOk H Hs H'=true) (hdom:domOk Hs H'=true)
  (h:RS P N ml (putF F dst r) (H'++H) (fun fps=>K (([],Qh H')::fps))):RS P N (⟨dst,.callv x as,g,pre⟩::ml) F H K :=
 rs_cons fun ops o hc=>⟨r,[],Qh H',H'++H,step_call hc (gOK_spec hg) (enters_callb hc rfl hx hent hv) hfc hh.hands (fun h=>(by cases h)) hsub.at_ (scopedHs_spec hsc) (fun i h=>(by cases h)) (newOk_spec hnew) (domOk_spec hdom),h⟩
def Js (P:Program) (c:Array Value) (w:World) (R:Ending->World->Prop):Prop:=∃ l rest,c = #[.func (.yield l) #[] #[]]++rest/\YieldAt Fence.wide 0 P l rest w R
theorem yieldSem_mono:SemMono (Js P):=fun hr ⟨l,rest,e,fn,tmps,as,body,h1,h2⟩=>⟨l,rest,e,fn,tmps,as,body,h1,h2.mono hr⟩
theorem roundIn_Fc {r:Option Nat} {n m:Nat} {l:Nat} {f:FuncId} {tmps:Array Value} {assign body:Code} {w:World} {R:Ending->World->Prop} (h:RoundIn Fence.wide n P l f tmps assign body w R):RoundIn (Fc r) m P l f tmps assign body w R :=
 ⟨Fc_fn r f,fun c cs _=>by
  obtain ⟨e,w',q,s⟩:=h.2 c cs (room_wide _)
  exact ⟨e,w',q,by rw [fenced_Fc]; exact s⟩⟩
theorem VR.yl_inv {w:World} {S:Nat->Prop} {ρ:Rho} {i:Nat} {c:Value} (h:VR w S ρ (.yl i) c):∃ b z cap,ρ i=some (some b,z,cap)/\c = .func (.yield b) #[] #[]:=by
 cases h with
 | cl h=>cases h
 | yl _ b z cap h=>exact ⟨b,z,cap,h,rfl⟩
theorem enters_yield {ops:Array Oper} {o:Oper} {mo:MOper} (hc:XQ P N ops o=some mo) {fa:Arg} {as:List Arg} (hop:mo.op = .callv fa as) {vs:List AV} {i:Nat} (hf:Qj F fa=some (.yl i)) (hv:Ul F as=some vs) :
  EntersG P o mo F (Js P) (.yl i::vs):=by
 obtain ⟨e1,_⟩:=QX hc
 rw [hop] at e1
 intro rn S ρ a w hF
 cases ho:o.op with
 | call c =>
  rw [ho] at e1
  simp only [QT,compCall] at e1
  split at e1
  ·split at e1
   ·split at e1 <;> simp at e1
   ·cases e1
  ·rename_i t hcal
   split at e1
   ·rename_i as' has
    injection e1 with e1
    injection e1 with e2 e3
    subst e2 e3
    obtain ⟨q1,q2⟩:=cargs_ok hF _ _ _ has (fun t ht=>by simp [MOper.slots,hop,MOp.slots,ht]) hv
    have hfv:=Qn (x:=.tmp t) (r:=.t t) rfl hF (fun k hk=>List.mem_append_left _ (by rw [hop]; exact List.mem_append_left _ hk)) hf
    obtain ⟨b,z,cap,e4,e5⟩:=hfv.yl_inv
    have earr:c.args.map a.eval=(c.args.toList.map a.eval).toArray:=by rw [← Array.toList_map,Array.toArray_toList]
    have hvr:VRs w S ρ (.yl i::vs) (#[.func (.yield b) #[] #[]]++c.args.map a.eval):=by
     rw [earr]
     refine ⟨by simp at q1 ⊢; omega,fun j u hj=>?_⟩
     cases j with
     | zero =>
      simp at hj; subst hj
      rw [Array.getD_eq_getD_getElem?,Array.getElem?_append_left (by simp)]
      exact .yl i b z cap e4
     | succ j =>
      have:=q2 j u (by simpa using hj)
      rw [Array.getD_eq_getD_getElem?] at this ⊢
      rw [Array.getElem?_append_right (by simp)]
      simpa using this
    refine ⟨_,hvr,fun K Q h=>?_⟩
    ·obtain ⟨l,rest,e6,fn,tmps,as,body,h1,h2⟩:=h
     have e7:=congrArg Array.toList e6
     simp only [Array.toList_append,List.cons_append,List.nil_append,List.cons.injEq,Value.func.injEq,Fn.yield.injEq,and_true] at e7
     obtain ⟨rfl,e8⟩:=e7
     have e9:c.args.map a.eval=rest:=Array.ext' e8
     obtain ⟨cmp,_⟩:=QX hc
     refine ⟨fun f _=>Fc_fn rn f,?_⟩
     rw [Oper.semAt_eq _ _ _ (compOp_nd cmp)]
     have hrun:(execOp a.eval o).run P w = .ok (.round b fn tmps as body) w:=by
      simp [execOp,ho,resolve,hcal,e5,Deferred.ofValue,invoke,e9,h1]
     rw [hrun]
     refine ⟨fun hd=>(Fc_depth rn hd).elim,roundIn_Fc (h2.mono fun e w' hk=>?_)⟩
     obtain ⟨cv,he,hk⟩:=hk
     subst he
     exact hk
   ·cases e1
  all_goals (repeat' split at e1) <;> simp at e1
 | _=>rw [ho] at e1; simp only [QT,compBin2] at e1; (repeat' split at e1) <;> first | contradiction | (unfold compBin3 at e1; (repeat' split at e1) <;> (cases e1; done)) | (cases e1; done) | (obtain ⟨r,_,e2⟩:=map_some e1; cases e2)
theorem rs_yield {fa:Arg} {as:List Arg} {vs vs':List AV} {i:Nat} {dst:Option Nat} {r:AV} (Hs:Hp) {H':Hp} (hg:gOK F g=true) (hf:Qj F fa=some (.yl i)) (hv:Ul F as=some vs) (hfc:FCg (Js P) vs' Hs r H' true)
  (hh:HVs H Hs [] true (.yl i::vs) vs') (hsub:SubH H Hs) (hsc:scopedHs Hs=true) (hnew:newOk H Hs H'=true) (hdom:domOk Hs H'=true)
  (h:RS P N ml (putF F dst r) (H'++H) (fun fps=>K (([],Qh H')::fps))):RS P N (⟨dst,.callv fa as,g,pre⟩::ml) F H K :=
 rs_cons fun ops o hc=>⟨r,[],Qh H',H'++H,step_callg (sem:=Js P) yieldSem_mono hc (gOK_spec hg) (enters_yield hc rfl hf hv) hfc hh.hands (fun h=>(by cases h)) hsub.at_ (scopedHs_spec hsc) (fun i h=>(by cases h)) (newOk_spec hnew) (domOk_spec hdom),h⟩
end
end Go.Proofs.YthfhaoogcpfboaaGreat
