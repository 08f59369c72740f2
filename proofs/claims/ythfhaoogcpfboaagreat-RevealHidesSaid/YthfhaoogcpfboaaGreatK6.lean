/-
  Proved: colletlaw38.RevealHides returns true for every input, and its arguments read as before. No condition.
-/
import Derived.Test.YthfhaoogcpfboaaGreatK5
import Derived.Shelf.SlSortCmp.WholeK
import Derived.Shelf.SlSortCmp.NoneTotal
import Derived.WalkKit
import Derived.WalkMore
import Derived.Deep.LoopGhost
import Derived.Test.YthfhaoogcpfboaaGreatRows
set_option linter.unusedVariables false
set_option linter.unusedSimpArgs false
namespace Go.Proofs.YthfhaoogcpfboaaGreat
open Go.RowKit Go.Shelf Go.Lib Go.Sort
set_option maxRecDepth 100000
def ordI (a b:Int):Int:=if a<b then -1 else if b<a then 1 else 0
theorem vo215 (a b:Int) (W:World):Calls Tryz.prog 215 #[.int .i64 a,.int .i64 b] W fun e w'=>e = .returned (.int .i64 (ordI a b))/\w'=W:=by
 by_cases h1:a<b
 ·have:ordI a b = -1:=if_pos h1
  rw [this]
  go_enter Tryz.func215,Tryz.ntmps215
  go_wp2
  go_ret
  exact ⟨rfl,rfl⟩
 ·by_cases h2:b<a
  ·have:ordI a b=1:=by unfold ordI; rw [if_neg h1,if_pos h2]
   rw [this]
   go_enter Tryz.func215,Tryz.ntmps215
   go_wp2
   go_ret
   exact ⟨rfl,rfl⟩
  ·have:ordI a b=0:=by unfold ordI; rw [if_neg h1,if_neg h2]
   rw [this]
   go_enter Tryz.func215,Tryz.ntmps215
   go_wp2
   go_ret
   exact ⟨rfl,rfl⟩
def encPl (p:Pl):List Value:=[.int .i64 p.n.x,.int .i64 p.n.y,.int .i64 p.n.z,.int .i64 p.b]
def Uf (p q:Pl):Int:=if ordI p.n.x q.n.x≠0 then ordI p.n.x q.n.x else if ordI p.n.y q.n.y≠0 then ordI p.n.y q.n.y else if ordI p.n.z q.n.z≠0 then ordI p.n.z q.n.z else ordI p.b q.b
def rw8 (p q:Pl):List Int:=[p.n.x,q.n.x,p.n.y,q.n.y,p.n.z,q.n.z,p.b,q.b]
def vo (p q:Pl) (k:Nat):Int:=ordI ((rw8 p q).getD (2*k) 0) ((rw8 p q).getD (2*k+1) 0)
def EqTo (p q:Pl) (k:Nat):Prop:=∀ j,j<k->vo p q j=0
structure GW (p q:Pl) (W wr:World):Prop where
 g:∃ n os,wr=grow (W.drewN n) os
 s:W.heap.size+3<=wr.heap.size
 c:∀ (k:Nat) (v:Int),(rw8 p q)[k]?=some v->wr.cell? ⟨W.heap.size+2,k,none⟩=some (.int .i64 v)
theorem cmp_at {p q:Pl} {k:Nat} (hk:k<4) (h:EqTo p q k) (h2:vo p q k≠0):Uf p q=vo p q k:=by
 obtain rfl | rfl | rfl | rfl:k=0\/k=1\/k=2\/k=3:=by omega
 ·exact if_pos h2
 ·have h0:ordI p.n.x q.n.x=0:=h 0 (by decide)
  unfold Uf; rw [if_neg (by rw [h0]; decide)]; exact if_pos h2
 ·have h0:ordI p.n.x q.n.x=0:=h 0 (by decide)
  have h1:ordI p.n.y q.n.y=0:=h 1 (by decide)
  unfold Uf; rw [if_neg (by rw [h0]; decide),if_neg (by rw [h1]; decide)]; exact if_pos h2
 ·have h0:ordI p.n.x q.n.x=0:=h 0 (by decide)
  have h1:ordI p.n.y q.n.y=0:=h 1 (by decide)
  have h3:ordI p.n.z q.n.z=0:=h 2 (by decide)
  unfold Uf; rw [if_neg (by rw [h0]; decide),if_neg (by rw [h1]; decide),if_neg (by rw [h3]; decide)]; rfl
theorem cmp_end {p q:Pl} (h:EqTo p q 4):Uf p q=0:=by
 have h0:ordI p.n.x q.n.x=0:=h 0 (by decide)
 have h1:ordI p.n.y q.n.y=0:=h 1 (by decide)
 have h3:ordI p.n.z q.n.z=0:=h 2 (by decide)
 unfold Uf; rw [if_neg (by rw [h0]; decide),if_neg (by rw [h1]; decide),if_neg (by rw [h3]; decide)]; exact h 3 (by decide)
theorem sz_alloc (w:World) (o:Obj):(w.alloc o).heap.size=w.heap.size+1:=by show (w.heap.push o).size=_; exact Array.size_push ..
theorem GW.alloc {p q:Pl} {W wr:World} (h:GW p q W wr) (o:Obj):GW p q W (wr.alloc o):=by
 obtain ⟨⟨n,os,rfl⟩,s,c⟩:=h
 exact ⟨⟨n,_,by rw [alloc_eq_grow,grow_grow]⟩,by rw [sz_alloc]; omega,fun k v hv=>cell?_alloc_some o (c k v hv)⟩
theorem EqTo.succ {p q:Pl} {k:Nat} (h:EqTo p q k) (h2:vo p q k=0):EqTo p q (k+1):=fun j hj=>by
 rcases Nat.lt_or_ge j k with h3 | h3
 ·exact h j h3
 ·obtain rfl:j=k:=by omega
  exact h2
theorem GW.start (p q:Pl) (W:World):GW p q W (((W.alloc (.cells #[.int .i64 p.n.x,.int .i64 p.n.y,.int .i64 p.n.z,.int .i64 p.b] 90)).alloc (.cells #[.int .i64 q.n.x,.int .i64 q.n.y,.int .i64 q.n.z,.int .i64 q.b] 90)).alloc
  (.cells #[.int .i64 p.n.x,.int .i64 q.n.x,.int .i64 p.n.y,.int .i64 q.n.y,.int .i64 p.n.z,.int .i64 q.n.z,.int .i64 p.b,.int .i64 q.b] 230)):=by
 refine ⟨⟨0,_,by rw [alloc_eq_grow,alloc_eq_grow,alloc_eq_grow,grow_grow,grow_grow]; rfl⟩,by rw [sz_alloc,sz_alloc,sz_alloc]; omega,fun k v hv=>?_⟩
 have hb:=heap_alloc_new ((W.alloc (.cells #[.int .i64 p.n.x,.int .i64 p.n.y,.int .i64 p.n.z,.int .i64 p.b] 90)).alloc (.cells #[.int .i64 q.n.x,.int .i64 q.n.y,.int .i64 q.n.z,.int .i64 q.b] 90)) (.cells #[.int .i64 p.n.x,.int .i64 q.n.x,.int .i64 p.n.y,.int .i64 q.n.y,.int .i64 p.n.z,.int .i64 q.n.z,.int .i64 p.b,.int .i64 q.b] 230)
 rw [show ((W.alloc (.cells #[.int .i64 p.n.x,.int .i64 p.n.y,.int .i64 p.n.z,.int .i64 p.b] 90)).alloc (.cells #[.int .i64 q.n.x,.int .i64 q.n.y,.int .i64 q.n.z,.int .i64 q.b] 90)).heap.size=W.heap.size+2 by rw [sz_alloc,sz_alloc]] at hb
 have hk:k<8:=(List.getElem?_eq_some_iff.1 hv).1
 unfold World.cell?
 rw [hb]
 obtain rfl | rfl | rfl | rfl | rfl | rfl | rfl | rfl:k=0\/k=1\/k=2\/k=3\/k=4\/k=5\/k=6\/k=7:=by omega
 all_goals (cases hv; rfl)
set_option maxHeartbeats 4000000 in
theorem vo195 (p q:Pl) (W:World):Calls Tryz.prog 195 #[.agg (encPl p).toArray,.agg (encPl q).toArray] W fun e w'=>e = .returned (.int .i64 (Uf p q))/\∃ n os',w'=grow (W.drewN n) os':=by
 have hcon:=fun a b W'=>vo215 a b W'
 unfold encPl
 go_enter Tryz.func195,Tryz.ntmps195
 go_wp2
 go_step3
 go_wp2
 go_step3
 go_wp2
 go_loopg [5,36] 5 (fun g s5 s36 wr=>∃ k:Nat,s36 = .int .i64 k/\s5 = .int .i64 0/\k<=4/\5<=k+g/\Aside (EqTo p q k)/\Aside (GW p q W wr))
 case atStart=>exact ⟨0,rfl,rfl,by omega,by omega,fun j h=>absurd h (by omega),GW.start p q W⟩
 case round =>
  obtain ⟨k,rfl,rfl,hk,hg,E0,S0⟩:=hrel
  rcases Nat.lt_or_ge k 4 with hlt | hge
  ·obtain rfl | rfl | rfl | rfl:k=0\/k=1\/k=2\/k=3:=by omega
   ·have c1:=S0.out.c 0 _ rfl
    have c2:=S0.out.c 1 _ rfl
    go_wp2_with (go_at_call 215; refine (hcon _ _ _).mono ?_; rintro e w' ⟨rfl,rfl⟩)
    ·rename_i h
     have h:=eq_of_beq h
     go_roundg (gk-1)
     case measure=>omega
     case rel=>exact ⟨1,rfl,by rw [h],by omega,by omega,E0.out.succ h,S0.out.alloc _⟩
    ·rename_i h
     have h:=beq_eq_false_iff_ne.1 h
     rw [Exit.noGoto_ret]
     go_ret
     exact ⟨by rw [cmp_at (k:=0) (by decide) E0.out h]; rfl,(S0.out.alloc _).g⟩
   ·have c1:=S0.out.c 2 _ rfl
    have c2:=S0.out.c 3 _ rfl
    go_wp2_with (go_at_call 215; refine (hcon _ _ _).mono ?_; rintro e w' ⟨rfl,rfl⟩)
    ·rename_i h
     have h:=eq_of_beq h
     go_roundg (gk-1)
     case measure=>omega
     case rel=>exact ⟨2,rfl,by rw [h],by omega,by omega,E0.out.succ h,S0.out.alloc _⟩
    ·rename_i h
     have h:=beq_eq_false_iff_ne.1 h
     rw [Exit.noGoto_ret]
     go_ret
     exact ⟨by rw [cmp_at (k:=1) (by decide) E0.out h]; rfl,(S0.out.alloc _).g⟩
   ·have c1:=S0.out.c 4 _ rfl
    have c2:=S0.out.c 5 _ rfl
    go_wp2_with (go_at_call 215; refine (hcon _ _ _).mono ?_; rintro e w' ⟨rfl,rfl⟩)
    ·rename_i h
     have h:=eq_of_beq h
     go_roundg (gk-1)
     case measure=>omega
     case rel=>exact ⟨3,rfl,by rw [h],by omega,by omega,E0.out.succ h,S0.out.alloc _⟩
    ·rename_i h
     have h:=beq_eq_false_iff_ne.1 h
     rw [Exit.noGoto_ret]
     go_ret
     exact ⟨by rw [cmp_at (k:=2) (by decide) E0.out h]; rfl,(S0.out.alloc _).g⟩
   ·have c1:=S0.out.c 6 _ rfl
    have c2:=S0.out.c 7 _ rfl
    go_wp2_with (go_at_call 215; refine (hcon _ _ _).mono ?_; rintro e w' ⟨rfl,rfl⟩)
    ·rename_i h
     have h:=eq_of_beq h
     go_roundg (gk-1)
     case measure=>omega
     case rel=>exact ⟨4,rfl,by rw [h],by omega,by omega,E0.out.succ h,S0.out.alloc _⟩
    ·rename_i h
     have h:=beq_eq_false_iff_ne.1 h
     rw [Exit.noGoto_ret]
     go_ret
     exact ⟨by rw [cmp_at (k:=3) (by decide) E0.out h]; rfl,(S0.out.alloc _).g⟩
  ·obtain rfl:k=4:=by omega
   go_wp2
   rw [Exit.noGoto_ret]
   go_ret
   exact ⟨by rw [cmp_end E0.out]; rfl,S0.out.g⟩
def renSo:Go.Shelf.Ren:={ f:=fun x=>(match x with | 6=>194 | 15=>124 | 14=>214 | 28=>151 | 29=>152 | 20=>219 | 21=>220 | 22=>221 | 23=>222 | 24=>223 | 25=>224 | 26=>225 | 27=>226 | 46=>228 | 47=>229 | 48=>230 | 49=>231 | 50=>232 | 57=>233 | n=>n),t:=fun x=>(match x with | 22=>85 | 24=>90 | 25=>222 | 39=>147 | 53=>181 | 55=>132 | 46=>237 | 45=>236 | 50=>241 | 66=>243 | 70=>247 | 76=>249 | 77=>250 | n=>n),g:=fun n=>n }
theorem laysSo:SlLaysF0.n6 Tryz.prog renSo:=by
 constructor
 case f6=>exact ⟨Tryz.f194.name,by kernel_rfl,by kernel_rfl⟩
 case f14=>exact ⟨Tryz.f214.name,by kernel_rfl,by kernel_rfl⟩
 case f20=>exact ⟨Tryz.f219.name,by kernel_rfl,by kernel_rfl⟩
 case f21=>exact ⟨Tryz.f220.name,by kernel_rfl,by kernel_rfl⟩
 case f22=>exact ⟨Tryz.f221.name,by kernel_rfl,by kernel_rfl⟩
 case f23=>exact ⟨Tryz.f222.name,by kernel_rfl,by kernel_rfl⟩
 case f24=>exact ⟨Tryz.f223.name,by kernel_rfl,by kernel_rfl⟩
 case f25=>exact ⟨Tryz.f224.name,by kernel_rfl,by kernel_rfl⟩
 case f26=>exact ⟨Tryz.f225.name,by kernel_rfl,by kernel_rfl⟩
 case f27=>exact ⟨Tryz.f226.name,by kernel_rfl,by kernel_rfl⟩
 case f46=>exact ⟨Tryz.f228.name,by kernel_rfl,by kernel_rfl⟩
 case f49=>exact ⟨Tryz.f231.name,by kernel_rfl,by kernel_rfl⟩
 case f50=>exact ⟨Tryz.f232.name,by kernel_rfl,by kernel_rfl⟩
 case f57=>exact ⟨Tryz.f233.name,by kernel_rfl,by kernel_rfl⟩
 all_goals first | kernel_rfl | (intro _; kernel_rfl)
instance:Inhabited Pl:=⟨dfPl⟩
theorem ltP {p q:Pl}:ltOf Uf p q=true ↔ (p.n.x<q.n.x\/(p.n.x=q.n.x/\(p.n.y<q.n.y\/(p.n.y=q.n.y/\(p.n.z<q.n.z\/(p.n.z=q.n.z/\p.b<q.b)))))):=by
 have o:∀ a b:Int,(ordI a b=0/\a=b)\/(ordI a b = -1/\a<b)\/(ordI a b=1/\b<a):=fun a b=>by
  unfold ordI
  by_cases h1:a<b
  ·rw [if_pos h1]; omega
  ·rw [if_neg h1]
   by_cases h2:b<a
   ·rw [if_pos h2]; omega
   ·rw [if_neg h2]; omega
 unfold ltOf Uf
 rw [decide_eq_true_iff]
 rcases o p.n.x q.n.x with ⟨e1,h1⟩ | ⟨e1,h1⟩ | ⟨e1,h1⟩
 ·rw [if_neg (by rw [e1]; decide)]
  rcases o p.n.y q.n.y with ⟨e2,h2⟩ | ⟨e2,h2⟩ | ⟨e2,h2⟩
  ·rw [if_neg (by rw [e2]; decide)]
   rcases o p.n.z q.n.z with ⟨e3,h3⟩ | ⟨e3,h3⟩ | ⟨e3,h3⟩
   ·rw [if_neg (by rw [e3]; decide)]
    rcases o p.b q.b with ⟨e4,h4⟩ | ⟨e4,h4⟩ | ⟨e4,h4⟩ <;> rw [e4] <;> omega
   ·rw [if_pos (by rw [e3]; decide),e3]; omega
   ·rw [if_pos (by rw [e3]; decide),e3]; omega
  ·rw [if_pos (by rw [e2]; decide),e2]; omega
  ·rw [if_pos (by rw [e2]; decide),e2]; omega
 ·rw [if_pos (by rw [e1]; decide),e1]; omega
 ·rw [if_pos (by rw [e1]; decide),e1]; omega
theorem swoP:SWO (ltOf Uf) where
 irrefl x:=by
  cases h:ltOf Uf x x
  ·rfl
  ·have:=ltP.1 h; omega
 trans x y z h1 h2:=by
  have a:=ltP.1 h1; have b:=ltP.1 h2
  exact ltP.2 (by omega)
 ntrans x y z h1 h2:=by
  cases h:ltOf Uf x z
  ·rfl
  ·have c:=ltP.1 h
   have a:¬ _:=fun q=>by rw [ltP.2 q] at h1; cases h1
   have b:¬ _:=fun q=>by rw [ltP.2 q] at h2; cases h2
   exfalso; omega
def sortS (xs:List Pl):List Pl:=if xs=[] then [] else (pdq (ltOf Uf) xs.toArray 0 xs.toArray.size (Lib.bitLen xs.toArray.size) true true).toList
theorem sort_perm (xs:List Pl):(sortS xs).length=xs.length/\∀ y∈sortS xs,y∈xs:=by
 unfold sortS
 split
 ·rename_i h; rw [h]; exact ⟨rfl,fun y h=>h⟩
 ·obtain ⟨h1,_,h3⟩:=(pdq_sorts (ltOf Uf) swoP xs.toArray 0 xs.toArray.size (Lib.bitLen xs.toArray.size) true true (Nat.zero_le _) (Nat.le_refl _) (Or.inl rfl)).1
  generalize pdq (ltOf Uf) xs.toArray 0 xs.toArray.size (Lib.bitLen xs.toArray.size) true true=d at h1 h3
  have e:d.extract 0 xs.toArray.size=d:=by rw [← h1]; simp
  rw [e] at h3
  have e2:(xs.toArray.extract 0 xs.toArray.size).toList=xs:=by simp
  rw [e2] at h3
  exact ⟨by simpa using h1,fun y hy=>h3.mem_iff.1 hy⟩
theorem cell_flat {xs:Array Pl} {j o:Nat} (hj:j<xs.size) (ho:o<4):(flatK encPl 4 xs)[j*4+o]! = (encPl xs[j]!)[o]! := by
 rw [get_flatK _ _ _ _ (by omega),show (j*4+o) / 4=j by omega,show (j*4+o) % 4=o by omega]
theorem sortW_old {w:World} {b n k:Nat} {F:Array Value} {os:Array Obj} (hk:k<w.heap.size) (hne:k≠b):(grow (putRow id (Sort.ahead w n) b 0 F) os).heap[k]?=w.heap[k]?:=by
 show ((w.heap.modify b (onCells (putCells id 0 F)))++os)[k]?=_
 rw [Array.getElem?_append_left (by simpa using hk),Array.getElem?_modify,if_neg (Ne.symm hne)]
theorem sortW_row {w:World} {b n:Nat} {F C:Array Value} {os:Array Obj} {e:TypeId} {fr:Nat×Nat} (hb:w.heap[b]?=some (.cells C e fr)):(grow (putRow id (Sort.ahead w n) b 0 F) os).heap[b]?=some (.cells (putCells id 0 F C) e fr):=by
 have hk:b<w.heap.size:=(Array.getElem?_eq_some_iff.1 hb).1
 show ((w.heap.modify b (onCells (putCells id 0 F)))++os)[b]?=_
 rw [Array.getElem?_append_left (by simpa using hk),Array.getElem?_modify,if_pos rfl,hb]; rfl
theorem put_get {F C:Array Value} {j:Nat} (hj:j<F.size) (hc:j<C.size):(putCells id 0 F C).getD j undef=F[j]! := by
 rw [Array.getD_eq_getD_getElem?]
 unfold putCells
 rw [Array.getElem?_mapIdx,Array.getElem?_eq_getElem hc]
 simp [hj]
theorem enc_get {p:Pl} {o:Nat} {v:AV} (h:(cPl p)[o]?=some v):∃ m:Int,v = .int .i64 m/\(encPl p)[o]! = .int .i64 m:=by
 have ho:o<4:=(List.getElem?_eq_some_iff.1 h).1
 obtain rfl | rfl | rfl | rfl:o=0\/o=1\/o=2\/o=3:=by omega
 all_goals (cases h; exact ⟨_,rfl,rfl⟩)
theorem vc194 (xs:List Pl) (hn:xs.length<=1000):FC Tryz.prog 194 [.sl 1005 0 xs.length,.fn (.func 195) []] [(1005,.cells 90 4 (xs.map cPl) true)] .any [(1005,.cells 90 4 ((sortS xs).map cPl) true)] true:=fun w S ρ cargs hH hv=>by
 obtain ⟨LA⟩:=cargs
 have h1:=hv.1
 have v0:=hv.2 0 _ rfl
 have v1:=hv.2 1 _ rfl
 match LA,h1,v0,v1 with
 | [x,y],_,v0,v1 =>
  obtain ⟨C0,hy,hC0,_⟩:=VR.fn_inv v1
  have hC0:C0 = #[]:=Array.eq_empty_of_size_eq_zero hC0
  subst hC0
  have hy:y = .func (.func 195) #[] #[]:=hy
  subst hy
  have keep0:xs=[]->∀ w',w'=w->∃ cv S' ρ',Ending.returned (.tuple #[]) = .returned cv/\VR w' S' ρ' .any cv/\HRF w' S' ρ' (get [(1005,.cells 90 4 ((sortS xs).map cPl) true)])/\Keep w w' (LiveF ρ (get [(1005,.cells 90 4 (xs.map cPl) true)]) All)/\(∀ b,S' b->(true=true/\S b)\/LiveF ρ (get [(1005,.cells 90 4 (xs.map cPl) true)]) All b\/w.heap.size<=b) ∧
    (∀ b,LiveF ρ' (get [(1005,.cells 90 4 ((sortS xs).map cPl) true)]) All b->LiveF ρ (get [(1005,.cells 90 4 (xs.map cPl) true)]) All b\/w.heap.size<=b)/\(∀ i,get ([(1005,.cells 90 4 (xs.map cPl) true)]:Hp) i≠none->ρ' i=ρ i)/\(∀ i,get ([(1005,.cells 90 4 (xs.map cPl) true)]:Hp) i≠none->get ([(1005,.cells 90 4 ((sortS xs).map cPl) true)]:Hp) i≠none):=fun hx w' hw=>by
   subst hw hx
   exact ⟨.tuple #[],S,ρ,rfl,.cl (.any _),hH,Keep.refl _ _,fun b hb=>.inl ⟨rfl,hb⟩,fun b hb=>.inl hb,fun i _=>rfl,fun i h=>h⟩
  rcases v0.sl_inv with ⟨b,z,cap,cap',hρ,hc,hn',hx⟩ | ⟨z,hρ,hj,hn0,hx⟩
  case inr =>
   have hx:x = .slice none 0 0:=hx
   subst hx
   exact (AnyF.slices_SortFunc_none laysSo none 0 (.func (.func 195) #[] #[]) w).mono fun e w' ⟨he,hw⟩=>by rw [he]; exact keep0 (List.eq_nil_of_length_eq_zero hn0) w' hw
  case inl =>
   have hx:x = .slice (some ⟨b,0*z,none⟩) xs.length cap':=hx
   rw [Nat.zero_mul] at hx
   subst hx
   by_cases hxs:xs=[]
   ·have:=AnyF.slices_SortFunc_none laysSo (some ⟨b,0,none⟩) cap' (.func (.func 195) #[] #[]) w
    rw [show xs.length=0 by rw [hxs]; rfl]
    exact this.mono fun e w' ⟨he,hw⟩=>by rw [he]; exact keep0 hxs w' hw
   ·obtain ⟨bk,z1,cap1,h2,h3,h4⟩:=hH.at_.ob 1005 _ trivial rfl
    rw [hρ] at h2
    injection h2 with h2; injection h2 with e1 e2; injection e2 with e2 e3
    subst e1 e2 e3
    obtain rfl:(4:Nat)=z:=h3
    obtain ⟨hnS,hcm,C,hC,hCs,hle,hel,hcell⟩:=h4
    have hle:xs.length<=cap:=by simpa using hle
    have hbs:b<w.heap.size:=(Array.getElem?_eq_some_iff.1 hC).1
    have hHo:HoldsK encPl 4 w b 0 xs.toArray:=fun j hj=>by
     rw [size_flatK] at hj
     have hj':j<xs.length*4:=by simpa using hj
     have hq:j / 4<xs.length:=by omega
     have ho:j % 4<4:=Nat.mod_lt _ (by decide)
     have hjC:j<C.size:=by rw [hCs]; exact Nat.lt_of_lt_of_le hj' (Nat.mul_le_mul_right _ hle)
     obtain ⟨v,hv4⟩:∃ v,(cPl xs[j / 4])[j % 4]?=some v:=⟨_,List.getElem?_eq_getElem (show j % 4<(cPl xs[j / 4]).length from ho)⟩
     obtain ⟨m,rfl,hm⟩:=enc_get hv4
     have:=hcell (j / 4) (cPl xs[j / 4]) (j % 4) _ (by rw [List.getElem?_map,List.getElem?_eq_getElem hq]; rfl) hv4
     have e:=this.2
     rw [if_pos rfl] at e
     have e:C.getD (j / 4*4+j % 4) undef = .int .i64 m:=(VR.cl (ρ:=ρ) e).int_inv
     rw [show j / 4*4+j % 4=j by omega] at e
     have eF:(flatK encPl 4 xs.toArray)[j]! = .int .i64 m:=by
      have:=cell_flat (xs:=xs.toArray) (j:=j / 4) (o:=j % 4) (by simpa using hq) ho
      rw [show j / 4*4+j % 4=j by omega] at this
      rw [this]
      have:xs.toArray[j / 4]! = xs[j / 4]:=by simp [hq]
      rw [this]; exact hm
     constructor
     ·rw [eF]
      unfold World.cell?
      dsimp only
      rw [hC]
      dsimp only
      rw [Nat.zero_add,if_neg (by decide)]
      rw [Array.getD_eq_getD_getElem?,Array.getElem?_eq_getElem hjC] at e
      rw [Array.getElem?_eq_getElem hjC]
      exact congrArg some e
     ·unfold World.frozen?
      dsimp only
      rw [hC]
      simp
    have hcl:CmpLays Tryz.prog 195 #[] encPl 4 Uf b 0 xs.toArray.size w:=fun m os dk hs p q=>vo195 p q _
    have hcon:=AnyQ.slices_SortFunc_eq laysSo 4 (by intro _; kernel_rfl) (by intro _; kernel_rfl) encPl (fun _=>rfl) (fun x v hv=>by simp [encPl] at hv; rcases hv with rfl | rfl | rfl | rfl <;> rfl) Uf swoP 195 #[] b 0 cap' xs.toArray w (JY (by kernel_rfl)) hcl hHo hbs (by simp; omega)
    have hsz:xs.toArray.size=xs.length:=by simp
    rw [hsz] at hcon
    refine hcon.mono fun e w' ⟨he,n,os,hw⟩=>?_
    have hd:sortS xs=(pdq (ltOf Uf) xs.toArray 0 xs.length (Lib.bitLen xs.length) true true).toList:=by unfold sortS; rw [if_neg hxs,hsz]
    have hlen:=(sort_perm xs).1
    generalize pdq (ltOf Uf) xs.toArray 0 xs.length (Lib.bitLen xs.length) true true=d at hw hd
    have hds:d.size=xs.length:=by rw [← hlen,hd]; simp
    rw [hw]
    have hrow:=sortW_row (n:=n) (F:=flatK encPl 4 d) (os:=os) hC
    have hold:∀ k,k<w.heap.size->k≠b->(sortWorldK encPl 4 w b 0 n d os).heap[k]?=w.heap[k]?:=fun k hk hne=>sortW_old hk hne
    have hsize:w.heap.size<=(sortWorldK encPl 4 w b 0 n d os).heap.size:=by
     show _<=((w.heap.modify b _)++os).size
     simp
    have hlive:LiveF ρ (get [(1005,.cells 90 4 (xs.map cPl) true)]) All b:=⟨1005,_,4,cap,trivial,rfl,rfl,hρ⟩
    have hget:∀ (o:Ob) i,i≠1005->get ([(1005,o)]:Hp) i=none:=fun o i hi=>by simp only [get]; rw [if_neg (Ne.symm hi)]
    refine ⟨.tuple #[],S,ρ,he,.cl (.any _),⟨fun b' hb'=>Nat.lt_of_lt_of_le (hH.hS b' hb') hsize,fun i hi=>?_,⟨fun i o _ ho=>?_,fun i j oi oj b1 z z' c c' _ _ hne hi hj=>?_⟩⟩,⟨rfl,rfl,rfl,hsize,fun k hk hnl=>hold k hk (fun e=>hnl (e ▸ hlive))⟩,fun b' hb'=>.inl ⟨rfl,hb'⟩,fun b' hb'=>?_,fun i _=>rfl,fun i hi=>?_⟩
    ·by_cases h:i=1005
     ·subst h; simp [get] at hi
     ·exact hH.dom i (hget _ i h)
    ·by_cases h:i=1005
     ·subst h
      simp [get] at ho
      subst ho
      refine ⟨some b,4,cap,hρ,rfl,hnS,hcm,_,hrow,?_,by simp; omega,fun j el hj=>?_,fun j el o v hj ho=>?_⟩
      ·unfold putCells; simp [hCs]
      ·rw [List.getElem?_map] at hj
       obtain ⟨p,_,rfl⟩:=Option.map_eq_some_iff.1 hj
       exact Nat.le_refl _
      ·rw [List.getElem?_map,hd] at hj
       obtain ⟨p,hp,rfl⟩:=Option.map_eq_some_iff.1 hj
       have hjd:j<d.size:=by simpa using (List.getElem?_eq_some_iff.1 hp).1
       have ho4:o<4:=(List.getElem?_eq_some_iff.1 ho).1
       obtain ⟨m,rfl,hm⟩:=enc_get ho
       have hb1:j*4+o<d.size*4:=by omega
       have hb2:j*4+o<C.size:=by rw [hCs]; omega
       have e:(putCells id 0 (flatK encPl 4 d) C).getD (j*4+o) undef = .int .i64 m:=by
        rw [put_get (by rw [size_flatK]; exact hb1) hb2,cell_flat hjd ho4]
        have:d[j]! = p:=by
         have:=(List.getElem?_eq_some_iff.1 hp).2
         simp [hjd] at this ⊢; exact this
        rw [this]; exact hm
       rw [e,if_pos rfl]
       exact ⟨rfl,.int _ _⟩
     ·rw [hget _ i h] at ho; cases ho
    ·have h1:i=1005:=Decidable.byContradiction fun h=>by rw [hget _ i h] at hi; cases hi
     have h2:j=1005:=Decidable.byContradiction fun h=>by rw [hget _ j h] at hj; cases hj
     exact absurd (h1.trans h2.symm) hne
    ·obtain ⟨i,ob,z,c,_,h5,_,h6⟩:=hb'
     by_cases h:i=1005
     ·subst h; rw [hρ] at h6; injection h6 with h6; injection h6 with h6 _; injection h6 with h6; subst h6; exact .inl hlive
     ·rw [hget _ i h] at h5; cases h5
    ·by_cases h:i=1005
     ·subst h; simp [get]
     ·exact absurd (hget _ i h) hi
end Go.Proofs.YthfhaoogcpfboaaGreat
namespace Go.Proofs.YthfhaoogcpfboaaGreat
open Go.RowKit
set_option maxRecDepth 100000
set_option linter.unusedVariables false
def ptsS (c:List Pl):List Pt:=if XQ [c]=true then Xo (ofS [c]) else []
theorem pts_len (c:List Pl):(ptsS c).length<=2000000:=by
 unfold ptsS
 split
 ·rename_i h; have:=corn_len (OkC.of h); omega
 ·exact Nat.zero_le _
def Qq (c:List Pl):List Pl:=if QX c=true then cmpS (sortS (delS (ptsS c) c)) else []
theorem leanO_sub (c:List Pl):(Qq c).length<=c.length/\∀ y∈Qq c,y∈c:=by
 unfold Qq
 split
 ·have h1:=ddN_sub (xs:=sortS (delS (ptsS c) c)) (q:=(sortS (delS (ptsS c) c)).length) (Nat.le_refl _)
  have h2:=sort_perm (delS (ptsS c) c)
  have h3:(delS (ptsS c) c).length<=c.length:=List.length_filter_le _ _
  exact ⟨by show (ddN _ _).length<=_; omega,fun y hy=>(List.mem_filter.1 (h2.2 y (h1.2 y hy))).1⟩
 ·exact ⟨Nat.zero_le _,fun y hy=>by cases hy⟩
theorem vc130' (c:List Pl) (h:1<=c.length/\c.length<=1000):FC Tryz.prog 130 [.rs 4 (c.map cPl)] [] (.sl 1005 0 c.length) [(1005,.cells 90 4 (c.map cPl) true)] false:=by
 match c,h with
 | c0::cs,h=>exact fc_ren (swp 7 1005) (swp_swp 7 1005) (vc130 c0 cs (by simp at h; omega)) (.cons (.closed rfl) .nil) .nil (.sl rfl) (.cons rfl .flat .nil)
theorem vc196' (xs:List Pl) (n:Nat) (hx:xs.length=n) (hn:n<=1000):FC Tryz.prog 196 [.sl 1005 0 n] [(1005,.cells 90 4 (xs.map cPl) true)] (.sl 1005 0 (cmpS xs).length) [(1005,.cells 90 4 ((cmpS xs).map cPl) true)] true:=by
 subst hx; exact vc196 xs hn
def mcv168:MC:=(.seq (.reg [oN 2 (.mv (.c .nils)) []] false) (.seq (.seq (.reg [oM 5 0 [],oN 6 (.call 154 [(.t 5)]) [0],oN 7 (.un .not (.t 6)) [1]] false) (.cond (.t 7) (.seq (.reg [oN 2 (.mv (.c .nils)) []] false) .ret) .skip)) (.seq (.reg [oM 8 0 [],oN 9 (.call 191 [(.t 8)]) [0],oN 3 (.alloc 170 1 [.nils]) [],⟨none,(.st 1 (.t 3) (.t 9)),none,[2,1,1,0,1,2]⟩] false) (.seq (.reg [oM 10 0 [],oN 11 (.call 130 [(.t 10)]) [0],oN 12 (.mkfn (.func 193) [(.t 3)]) [],oN 13 (.call 192 [(.t 11),(.t 12)]) [1,2,1],oM 4 13 [3,3,0,1,2,3]] false) (.seq (.reg [oM 14 4 [],oN 15 (.call 194 [(.t 14),(.c (.fn (.func 195) []))]) [0]] false) (.seq (.reg [oM 16 4 [],oN 17 (.call 196 [(.t 16)]) [0],oM 2 17 [1,1,0,1]] false) .ret))))))
theorem mcOkv168:okM Tryz.prog Tryz.f168 18=some mcv168:=by kernel_rfl
theorem vc168 (c:List Pl) (h:OkC c):FC Tryz.prog 168 [.rs 4 (c.map cPl)] [] (.rs 4 ((Qq c).map cPl)) [] false:=by
 have hcn:=h.n
 have hdl:(delS (ptsS c) c).length<=c.length:=List.length_filter_le _ _
 have hsl:=(sort_perm (delS (ptsS c) c)).1
 refine Qj (nt:=18) Tryz.func168 rfl rfl mcOkv168 (nL rfl) ?_
 delta mcv168
 refine gA 8 rfl (cN rfl rfl (vc154 c h) ?_)
 cases h6:QX c
 ·skip
  refine gR 8 rfl ?_
  rw [show Qq c=[] from by unfold Qq; rw [h6]; rfl]
  exact Qk <| Qs rfl QI .nil
 ·skip
  refine gR 7 rfl (Q1 [] rfl rfl (vc191 c h) (.cons (Qd rfl) .nil) .nil rfl rfl rfl (gR 4 rfl (QE (F0:=[(0,.rs 4 (c.map cPl)),(3,.rp [.rs 4 ((ptsS c).map cPt)])]) (H0:=[]) (Qa (.cs (.cons rfl (Xq rfl rfl (.inl rfl)) (.nil))) (.nil) (fun i h=>by cases h)) (gK 2 rfl (cN rfl rfl (vc130' c (by omega)) (gR 1 rfl (Q1 [(1005,.cells 90 4 (c.map cPl) true)] rfl rfl (vc192 (ptsS c) (pts_len c) c (by omega)) (.cons (Qd rfl) (.cons (Qd rfl) (.nil))) (.cons rfl (.nil)) rfl rfl rfl (gR 5 rfl (Q1 [(1005,.cells 90 4 ((delS (ptsS c) c).map cPl) true)] rfl rfl (vc194 (delS (ptsS c) c) (by omega)) (.cons (Qd rfl) (.cons (Qd rfl) (.nil))) (.cons rfl (.nil)) rfl rfl rfl (gR 4 rfl (Q1 [(1005,.cells 90 4 ((sortS (delS (ptsS c) c)).map cPl) true)] rfl rfl (vc196' (sortS (delS (ptsS c) c)) (delS (ptsS c) c).length hsl (by omega)) (.cons (Qd rfl) (.nil)) (.cons rfl (.nil)) rfl rfl rfl ?_)))))))))))
  refine gR 3 rfl ?_
  rw [show Qq c=cmpS (sortS (delS (ptsS c) c)) from by unfold Qq; rw [h6]; rfl]
  exact Qk <| Qs rfl (Xr rfl rfl rfl (fun _=>rfl)) .nil
end Go.Proofs.YthfhaoogcpfboaaGreat
namespace Go.Proofs.YthfhaoogcpfboaaGreat
open Go.RowKit
set_option maxRecDepth 100000
set_option linter.unusedVariables false
section
variable {H:Hp}
inductive LendR (H:Hp) (rd:List Nat):List (List AV)->List (List AV)->Prop where
 | nil:LendR H rd [] []
 | rs {z:Nat} {els:List (List AV)} {l l':List (List AV)} (r:LendR H rd l l'):LendR H rd ([.rs z els]::l) ([.rs z els]::l')
 | sl {i e z n:Nat} {els:List (List AV)} {l l':List (List AV)} (hi:i∈rd) (hg:get H i=some (.cells e z els true)) (hn:els.length=n) (r:LendR H rd l l'):LendR H rd ([.sl i 0 n]::l) ([.rs z els]::l')
theorem LendR.at_ {Hs:Hp} {rd:List Nat} {el el':List (List AV)} (h:LendR H rd el el'):el.length=el'.length/\∀ (o:Nat) (x:List AV),el'[o]?=some x->∃ v v',el[o]?=some [v]/\x=[v'] ∧
  ∀ (w:World) (S:Nat->Prop) (ρ:Rho) (c:Value),HRi (fun i=>i∈rd\/get Hs i≠none) w S ρ H->VR w S ρ v c->CR w (fun b=>S b\/(false=false/\Jw ρ H (fun i=>i∈rd) b)) v' c:=by
 induction h with
 | nil=>exact ⟨rfl,fun o v' ho=>by simp at ho⟩
 | @rs z els l l' _ ih =>
  refine ⟨by simp [ih.1],fun o x ho=>?_⟩
  cases o with
  | zero=>simp at ho; subst ho; exact ⟨_,_,rfl,rfl,fun w S ρ c _ hv=>hv.rs_cr.mono (fun b hb=>.inl hb) (fun _ _ _ h=>h)⟩
  | succ o=>simpa using ih.2 o x (by simpa using ho)
 | @sl i e z n els l l' hi hg hn _ ih =>
  refine ⟨by simp [ih.1],fun o x ho=>?_⟩
  cases o with
  | zero =>
   simp at ho; subst ho
   refine ⟨_,_,rfl,rfl,fun w S ρ c hh hv=>?_⟩
   have:=hv_sl (Hs:=Hs) hi hg (j:=0) (n:=n) (by omega) (els':=els) (by rw [List.drop_zero,List.take_of_length_le (by omega)])
   exact (this w S ρ c hh hv).rs_cr
  | succ o=>simpa using ih.2 o x (by simpa using ho)
theorem hv_rows {Hs:Hp} {rd:List Nat} {i e n:Nat} {els els':List (List AV)} {fl:Bool} (hi:i∈rd) (hg:get H i=some (.cells e 1 els fl)) (hl:LendR H rd els els') (hn:els'.length=n):HV H Hs rd false (.sl i 0 n) (.rs 1 els'):=fun w S ρ c hh hv=>by
 obtain ⟨hlen,hat⟩:=hl.at_ (Hs:=Hs)
 subst hn
 rcases hv.sl_inv with ⟨b,z0,cap,cap',hρ,hjc,hnc,rfl⟩ | ⟨z0,hρ,_,h0,rfl⟩
 ·obtain ⟨bk,z1,c1,q1,hz,q2⟩:=hh.ob i _ (.inl hi) hg
  rw [hρ] at q1
  injection q1 with q1
  obtain ⟨rfl,rfl,rfl⟩:some b=bk/\z0=z1/\cap=c1:=by simpa using q1
  subst hz
  obtain ⟨hs,hm,C,hC,e1,e2,e3,e4⟩:=q2
  have hcell:∀ (q:Nat) (x:List AV) (k:Nat) (u:AV),els'[q]?=some x->x[k]?=some u->k=0/\C.getD q undef=C.getD (q*1+0) undef/\q<C.size/\(C.getD q undef).oneCell'=true/\CR w (fun b=>S b\/(false=false/\Jw ρ H (fun i=>i∈rd) b)) u (C.getD q undef):=fun q x k u hq hk=>by
   obtain ⟨v,v',g1,rfl,g2⟩:=hat q x hq
   obtain rfl:k=0:=by
    have:=(List.getElem?_eq_some_iff.1 hk).1
    simpa using this
   obtain rfl:v'=u:=by simpa using hk
   obtain ⟨g3,g4⟩:=e4 q [v] 0 v g1 rfl
   rw [Nat.mul_one,Nat.add_zero] at g3 g4
   have hql:q<els.length:=(List.getElem?_eq_some_iff.1 g1).1
   refine ⟨rfl,by rw [Nat.mul_one,Nat.add_zero],by rw [e1]; omega,g3,g2 w S ρ _ hh ?_⟩
   by_cases hf:fl=true
   ·rw [if_pos hf] at g4; exact .cl g4
   ·rw [if_neg hf] at g4; exact g4
  have hq:=CR.rs (w:=w) (S:=fun b=>S b\/(false=false/\Jw ρ H (fun i=>i∈rd) b)) 1 els' b (0*1) cap' (fun q k=>C.getD q undef) (.inr ⟨rfl,i,_,1,cap,hi,hg,rfl,hρ⟩) (by omega)
   (fun q el k u hq hk=>by
    obtain ⟨rfl,_,h3,h4,_⟩:=hcell q el k u hq hk
    refine ⟨?_,h4⟩
    rw [Nat.zero_mul,Nat.zero_add,Nat.mul_one,Nat.add_zero,cell_of_row w b _ C e (0,0) hC]
    exact getD_some h3)
   (fun q el k u hq hk=>(hcell q el k u hq hk).2.2.2.2)
  exact .cl hq
 ·obtain rfl:=List.eq_nil_of_length_eq_zero h0
  exact .cl (.rs0 1 none 0)
end
def cutL (rest:List Pl) (p:Pl):List (List Pl):=if 0<(Qq (rest++[X1 p])).length then [Qq (rest++[X1 p])] else []
def prtL:List Pl->List Pl->List (List Pl)
 | _,[]=>[]
 | rest,p::t=>if 48<=rest.length then [] else cutL rest p++prtL (Qq (rest++[p])) t
def prtB:List Pl->List Pl->Bool
 | _,[]=>false
 | rest,p::t=>decide (48<=rest.length)||prtB (Qq (rest++[p])) t
theorem prtL_at {rest fs:List Pl} {k:Nat} {p:Pl} (h:fs[k]?=some p) (h2:¬ 48<=rest.length):prtL rest (fs.drop k)=cutL rest p++prtL (Qq (rest++[p])) (fs.drop (k+1)):=by rw [Jo h]; exact if_neg h2
theorem prtL_st {rest fs:List Pl} {k:Nat} {p:Pl} (h:fs[k]?=some p) (h2:48<=rest.length):prtL rest (fs.drop k)=[]:=by rw [Jo h]; exact if_pos h2
theorem prtB_at {rest fs:List Pl} {k:Nat} {p:Pl} (h:fs[k]?=some p):prtB rest (fs.drop k)=(decide (48<=rest.length)||prtB (Qq (rest++[p])) (fs.drop (k+1))):=by rw [Jo h]; rfl
theorem cutL_1 {rest:List Pl} {p:Pl} (h:0<(Qq (rest++[X1 p])).length):cutL rest p=[Qq (rest++[X1 p])]:=if_pos h
theorem cutL_0 {rest:List Pl} {p:Pl} (h:¬ 0<(Qq (rest++[X1 p])).length):cutL rest p=[]:=if_neg h
theorem lean_snoc (rest:List Pl) (p:Pl):(Qq (rest++[p])).length<=rest.length+1:=by
 have:=(leanO_sub (rest++[p])).1; rwa [Xz] at this
theorem vc160p (a:List Pl) (p:Pl) (h:a.length<=100):FC Tryz.prog 160 [.rs 1 [[.rs 4 (a.map cPl)],[.rs 4 [cPl p]]]] [] (.sl 1005 0 (a++[p]).length) [(1005,.cells 90 4 ((a++[p]).map cPl) true)] false :=
 vc160 [a,[p]] (by simp; omega) (by simp)
structure OkB (a b:List Pl):Prop where
 n:1<=b.length/\b.length<=100
 m:a.length<=100
def wthA (q fs:List Pl):List (List Pl)->List (List Pl)->Option (List (List Pl))
 | o,[]=>some o
 | o,x::t=>if Uh x q=true then wthA q fs (o++[x]) t else if prtB x fs=true then none else wthA q fs (o++prtL x fs) t
theorem wthA_at {q fs:List Pl} {o xs:List (List Pl)} {k:Nat} {x:List Pl} (h:xs[k]?=some x):wthA q fs o (xs.drop k)=if Uh x q=true then wthA q fs (o++[x]) (xs.drop (k+1)) else if prtB x fs=true then none else wthA q fs (o++prtL x fs) (xs.drop (k+1)):=by rw [Jo h]; rfl
def wthS (xs:List (List Pl)) (q:List Pl):List (List Pl)×Int :=
 if QX q=true then match wthA q (Qq q) [] xs with
  | none=>([],9)
  | some o=>if 200<o.length then ([],9) else (o,0)
 else (xs,0)
theorem wth_1 {xs:List (List Pl)} {q:List Pl} (h:QX q=false):wthS xs q=(xs,0):=by unfold wthS; rw [h]; rfl
theorem wth_2 {xs:List (List Pl)} {q:List Pl} (h:QX q=true) (h2:wthA q (Qq q) [] xs=none):wthS xs q=([],9):=by unfold wthS; rw [if_pos h,h2]
theorem wth_3 {xs o:List (List Pl)} {q:List Pl} (h:QX q=true) (h2:wthA q (Qq q) [] xs=some o) (h3:200<o.length):wthS xs q=([],9):=by unfold wthS; rw [if_pos h,h2]; exact if_pos h3
theorem wth_4 {xs o:List (List Pl)} {q:List Pl} (h:QX q=true) (h2:wthA q (Qq q) [] xs=some o) (h3:¬ 200<o.length):wthS xs q=(o,0):=by unfold wthS; rw [if_pos h,h2]; exact if_neg h3
theorem wth_e (xs:List (List Pl)) (q:List Pl):(wthS xs q).2=0\/(wthS xs q).2=9:=by
 unfold wthS
 split
 ·split
  ·exact .inr rfl
  ·split
   ·exact .inr rfl
   ·exact .inl rfl
 ·exact .inl rfl
theorem prtL_ok:∀ {fs rest:List Pl},prtB rest fs=false->∀ y∈prtL rest fs,y.length<=48
 | [],rest,_,y,hy=>by cases hy
 | p::t,rest,h,y,hy=>by
  simp only [prtB,Bool.or_eq_false_iff,decide_eq_false_iff_not] at h
  rw [show prtL rest (p::t)=_ from if_neg h.1] at hy
  rcases List.mem_append.1 hy with hy | hy
  ·unfold cutL at hy
   split at hy
   ·rw [List.mem_singleton.1 hy]; have:=lean_snoc rest (X1 p); omega
   ·cases hy
  ·exact prtL_ok h.2 y hy
theorem prtL_len:∀ (fs rest:List Pl),(prtL rest fs).length<=fs.length
 | [],rest=>Nat.le_refl _
 | p::t,rest=>by
  have h:=prtL_len t (Qq (rest++[p]))
  have h2:(prtL rest (p::t)).length<=(cutL rest p++prtL (Qq (rest++[p])) t).length:=by
   show (if _ then _ else _:List (List Pl)).length<=_
   split
   ·exact Nat.zero_le _
   ·exact Nat.le_refl _
  have:(cutL rest p).length<=1:=by unfold cutL; split <;> simp
  rw [List.length_append] at h2; rw [List.length_cons]; omega
theorem wthA_ok {q fs:List Pl}:∀ {xs o r:List (List Pl)},wthA q fs o xs=some r->(∀ y∈o,y.length<=48)->(∀ y∈xs,y.length<=48)->∀ y∈r,y.length<=48
 | [],o,r,h,ho,_=>by injection h with h; subst h; exact ho
 | x::t,o,r,h,ho,hx=>by
  have ht:∀ y∈t,y.length<=48:=fun y hy=>hx y (List.mem_cons_of_mem _ hy)
  unfold wthA at h
  split at h
  ·exact wthA_ok h (fun y hy=>by rcases List.mem_append.1 hy with hy | hy; exact ho y hy; rw [List.mem_singleton.1 hy]; exact hx x List.mem_cons_self) ht
  ·split at h
   ·cases h
   ·rename_i hb
    exact wthA_ok h (fun y hy=>by rcases List.mem_append.1 hy with hy | hy; exact ho y hy; exact prtL_ok (Bool.eq_false_iff.2 hb) y hy) ht
structure OkPs (xs:List (List Pl)):Prop where
 n:xs.length<=200
 m:∀ x∈xs,x.length<=48
theorem wth_ok {xs:List (List Pl)} {q:List Pl} (h:OkPs xs):OkPs (wthS xs q).1:=by
 unfold wthS
 split
 ·split
  ·exact ⟨Nat.zero_le _,fun x hx=>by cases hx⟩
  ·rename_i o ho
   split
   ·exact ⟨Nat.zero_le _,fun x hx=>by cases hx⟩
   ·exact ⟨by show o.length<=200; omega,wthA_ok ho (fun y hy=>by cases hy) h.m⟩
 ·exact h
def sckS (s:List (List Pl)):Int:=if s.length>16 then 2 else ckAll s
def mnsL:List (List Pl)->List (List Pl)->List (List Pl)×Int
 | ps,[]=>(ps,0)
 | ps,q::t=>if (wthS ps q).2≠0 then ([],(wthS ps q).2) else mnsL (wthS ps q).1 t
theorem mnsL_at {ps s:List (List Pl)} {k:Nat} {q:List Pl} (h:s[k]?=some q):mnsL ps (s.drop k)=if (wthS ps q).2≠0 then ([],(wthS ps q).2) else mnsL (wthS ps q).1 (s.drop (k+1)):=by rw [Jo h]; rfl
theorem mnsL_e:∀ (s ps:List (List Pl)),(mnsL ps s).2=0\/(mnsL ps s).2=9
 | [],ps=>.inl rfl
 | q::t,ps=>by
  unfold mnsL
  split
  ·exact wth_e ps q
  ·exact mnsL_e t _
def mnsS (c:List Pl) (s:List (List Pl)):List (List Pl)×Int:=if ckS c≠0 then ([],ckS c) else if sckS s≠0 then ([],sckS s) else if QX c=true then mnsL [Qq c] s else ([],0)
theorem mns_e {c:List Pl} {s:List (List Pl)} (h:ckS c=0) (h2:sckS s=0):(mnsS c s).2=0\/(mnsS c s).2=9:=by
 unfold mnsS
 rw [if_neg (by omega),if_neg (by omega)]
 split
 ·exact mnsL_e _ _
 ·exact .inl rfl
def covS (s:List (List Pl)) (c:List Pl):Bool×Int:=(decide ((mnsS c s).2=0)&&decide ((mnsS c s).1.length=0),(mnsS c s).2)
def mcv217:MC:=(.seq (.reg [oN 1 (.box 90 4 (.t 0)) [],oN 2 (.alloc 90 4 [(.int .i64 0),(.int .i64 0),(.int .i64 0),(.int .i64 0)]) []] false) (.seq (.reg [oN 3 (.build [(.int .i64 0),(.int .i64 0),(.int .i64 0)] []) [],oA 4 0 1 [],oN 5 (.ld true 3 (.t 4)) [1],oN 6 (.call 227 [(.t 3),(.t 5)]) [0,2],oA 7 3 1 [],oD 8 1 7 [4],oN 9 (.un .neg (.t 8)) [5],oN 10 (.build [(.int .i64 0),(.int .i64 0),(.int .i64 0),(.int .i64 0)] [(0,(3,(.t 6))),(3,(1,(.t 9)))]) [3,6],⟨none,(.st 4 (.t 2) (.t 10)),none,[7,3,0,1,2,3,4,5,6,7]⟩] true) .ret))
theorem mcOkv217:okM Tryz.prog Tryz.f217 11=some mcv217:=by kernel_rfl
theorem vc217 (p:Pl) (h : -9223372036854775807<=p.b/\p.b<=9223372036854775807):FC Tryz.prog 217 [.agg (cPl p)] [] (.agg (cPl (X1 p))) [] false:=by
 refine Qj (nt:=11) Tryz.func217 rfl rfl mcOkv217 (nL rfl) ?_
 delta mcv217
 refine gA 10 rfl (cN rfl rfl (fc27 ⟨0,0,0⟩ p.n) (gR 2 rfl (Jz rfl rfl (by omega) (gR 2 rfl (QJ (by kernel_rfl) (gP 1 rfl ?_))))))
 exact Qk <| Qc rfl rfl rfl (.inr rfl)
theorem vc89b (a b:List Pl) (h:OkB a b):FC Tryz.prog 89 [.rs 4 (a.map cPl),.rs 4 (b.map cPl)] [] (.bool (Uh a b)) [] false:=vc89g a b (by have:=h.n; omega) h.m h.n.2
def mcv167:MC:=(.seq (.reg [oN 2 (.mv (.c (.int .i64 0))) []] false) (.seq (.seq (.reg [oM 6 0 [],oN 7 (.len (.t 6)) [0],oN 8 (.bin .gtr (.t 7) (.c (.int .i64 16))) [1]] false) (.cond (.t 8) (.seq (.reg [oN 2 (.mv (.c (.int .i64 2))) []] false) .ret) .skip)) (.seq (.seq (.reg [oM 9 0 [],oN 10 (.len (.t 9)) [0],oN 11 (.mv (.c (.int .i64 0))) []] false) (.block 0 (.loop (.seq (.reg [oN 12 (.bin .lss (.t 11) (.t 10)) []] false) (.seq (.cond (.t 12) .skip (.exit 0)) (.seq (.block 1 (.seq (.reg [oN 13 (.ixsl 1 (.t 9) (.t 11)) [],oD 14 1 13 [0],oM 4 14 [1,0,1]] false) (.seq (.reg [oM 15 4 [],oN 16 (.call 128 [(.t 15)]) [0],oM 5 16 [1,1,0,1]] false) (.seq (.reg [oM 17 5 [],oN 18 (.bin .neq (.t 17) (.c (.int .i64 0))) [0]] false) (.cond (.t 18) (.seq (.reg [oM 19 5 [],oM 2 19 [0,0]] false) .ret) .skip))))) (.reg [oN 20 (.bin .add (.t 11) (.c (.int .i64 1))) [],oM 11 20 [0]] false))))))) (.seq (.reg [oN 2 (.mv (.c (.int .i64 0))) []] false) .ret))))
theorem mcOkv167:okM Tryz.prog Tryz.f167 21=some mcv167:=by kernel_rfl
theorem vc167 (l:List (List Pl)) (hc:∀ c∈l,c.length<=1000):FC Tryz.prog 167 [.rs 1 (l.map cR)] [] (iv (sckS l)) [] false:=by
 refine Qj (nt:=21) Tryz.func167 rfl rfl mcOkv167 (nL rfl) ?_
 delta mcv167
 refine gA 8 rfl (Qh rfl rfl (gR 0 rfl (rs_gtr rfl rfl rfl (gR 1 rfl (Qe rfl (fun h8=>?_) (fun h8=>?_))))))
 ·first | replace h8:=of_decide_eq_true h8 | skip
  refine gK 5 rfl ?_
  rw [show sckS l=2 from if_pos (by omega)]
  exact Qk <| Qc rfl rfl rfl (.inr rfl)
 ·first | replace h8:=of_decide_eq_false h8 | skip
  refine gK 5 rfl (Qh rfl rfl (gR 3 rfl ?_))
  refine Qr (α:=Nat) (fun k=>l.length-k) (fun k=>[(9,.rs 1 (l.map cR)),(10,iv (l.length:Int)),(11,iv (((k):Nat):Int))]) (fun k=>[]) (fun k=>k<=l.length/\ckAll (l.drop k)=ckAll l) 0 (⟨by omega,rfl⟩)
   (Qa (Qb rfl rfl) (.nil) (fun i h=>by cases h)) ?_
  rintro k ⟨hk,hinv⟩
  refine gT 5 rfl (Qe rfl (fun h12=>?_) (fun h12=>?_))
  ·first | replace h12:=of_decide_eq_true h12 | skip
   refine gK 5 rfl ?_
   obtain ⟨c,hck,hcm⟩:=Qo (L:=l) (k:=k) (by omega)
   rw [ckAll_at hck] at hinv
   refine Qp (f:=cR) (y:=c) rfl rfl rfl (by omega) hck (gR 6 rfl (cN rfl rfl (vc128 c (hc c hcm)) (gR 5 rfl (Ja rfl rfl rfl (gR 1 rfl (Qe rfl (fun h18=>?_) (fun h18=>?_)))))))
   ·first | replace h18:=of_decide_eq_true h18 | skip
    refine gK 6 rfl ?_
    rw [show sckS l=ckAll l from if_neg (by omega),← hinv,if_pos h18]
    exact Qk <| Qc rfl rfl rfl (.inr rfl)
   ·first | replace h18:=of_decide_eq_false h18 | skip
    refine gK 2 rfl ?_
    first | refine Qg rfl rfl rfl (by omega) ?_ | refine QH rfl rfl rfl rfl ?_
    refine gR 2 rfl ?_
    rw [if_neg h18] at hinv
    exact Q8 <| ⟨k+1,⟨by omega,hinv⟩,by omega,Qa (Qb rfl rfl) (.nil) (fun i h=>by cases h)⟩
  ·first | replace h12:=of_decide_eq_false h12 | skip
   refine gK 6 rfl ?_
   rw [show sckS l=ckAll l from if_neg (by omega),show ckAll l=0 from by rw [← hinv,List.drop_eq_nil_of_le (by omega)]; rfl]
   exact Qk <| Qc rfl rfl rfl (.inr rfl)
def mcv197:MC:=(.seq (.reg [oN 2 (.box 85 1 (.t 0)) [],oN 3 (.box 85 1 (.t 1)) [],oN 4 (.mv (.c .nilf)) []] false) (.seq (.reg [oN 5 (.mkfn (.func 216) [(.t 2),(.t 3)]) [],oM 4 5 [0,0]] false) .ret))
theorem mcOkv197:okM Tryz.prog Tryz.f197 6=some mcv197:=by kernel_rfl
theorem vc197 (x fs:List Pl):FC Tryz.prog 197 [.rs 4 (x.map cPl),.rs 4 (fs.map cPl)] [] (.fn (.func 216) [.rp [.rs 4 (x.map cPl)],.rp [.rs 4 (fs.map cPl)]]) [] true:=by
 refine Qj (nt:=6) Tryz.func197 rfl rfl mcOkv197 (nL rfl) ?_
 delta mcv197
 refine gA 12 rfl ?_
 exact Qk <| Qs rfl (rc_fnr (.cons (Xq rfl rfl (.inl rfl)) (.cons (Xq rfl rfl (.inl rfl)) .nil))) .nil
def as169:MC:=(.reg [oM 10 33 []] false)
def bd169:MC:=(.block 3 (.seq (.seq (.reg [oM 34 10 [],oN 35 (.isnil true false (.t 34)) [0]] false) (.cond (.t 35) (.seq (.reg [⟨none,(.st 1 (.t 4) (.c .nils)),none,[]⟩,⟨none,(.st 1 (.t 5) (.c (.int .i64 9))),none,[0,0]⟩] false) .ret) .skip)) (.reg [oD 36 1 7 [],oM 37 10 [],oN 38 (.bslice 85 1 [.nils] 1 [(0,(.t 37))]) [1],oN 39 (.app 85 1 24 [.nils] (.t 36) (.t 38)) [0,2],⟨none,(.st 1 (.t 7) (.t 39)),none,[3,3,0,1,2,3]⟩] false)))
theorem as169n (x q:List Pl) (xs:List (List Pl)) (k:Nat) (l:List (List Pl)) (c:List Pl) (o:Loop) (lb:Nat):AW Tryz.prog 45 [900,4,5,7,903] (some lb) as169 (fun e F' H'=>e = .normal/\Weak 45 [900,4,5,7,903] F' H' [(10,.rs 4 (c.map cPl)),(4,.ptr 4 0 0),(5,.ptr 5 0 0),(7,.ptr 7 0 0)] [(900,.lp o [(32,.fn (.func 216) [.rp [.rs 4 (x.map cPl)],.rp [.rs 4 ((Qq q).map cPl)]]),(1,.rs 4 (q.map cPl)),(4,.ptr 4 0 0),(5,.ptr 5 0 0),(6,.rs 4 ((Qq q).map cPl)),(7,.ptr 7 0 0),(17,.rs 1 (xs.map cR)),(18,iv (xs.length:Int)),(19,iv (((k):Nat):Int))]),(4,.cells 29 1 [[.nils]] true),(5,.cells 36 1 [[iv 0]] true),(7,.cells 29 1 [[.sl 903 0 (l).length]] false),(903,.cells 85 1 ((l).map cR) true)]) [(33,.rs 4 (c.map cPl)),(32,.fn (.func 216) [.rp [.rs 4 (x.map cPl)],.rp [.rs 4 ((Qq q).map cPl)]]),(1,.rs 4 (q.map cPl)),(4,.ptr 4 0 0),(5,.ptr 5 0 0),(6,.rs 4 ((Qq q).map cPl)),(7,.ptr 7 0 0),(17,.rs 1 (xs.map cR)),(18,iv (xs.length:Int)),(19,iv (((k):Nat):Int))] [(900,.lp o [(32,.fn (.func 216) [.rp [.rs 4 (x.map cPl)],.rp [.rs 4 ((Qq q).map cPl)]]),(1,.rs 4 (q.map cPl)),(4,.ptr 4 0 0),(5,.ptr 5 0 0),(6,.rs 4 ((Qq q).map cPl)),(7,.ptr 7 0 0),(17,.rs 1 (xs.map cR)),(18,iv (xs.length:Int)),(19,iv (((k):Nat):Int))]),(4,.cells 29 1 [[.nils]] true),(5,.cells 36 1 [[iv 0]] true),(7,.cells 29 1 [[.sl 903 0 (l).length]] false),(903,.cells 85 1 ((l).map cR) true)]:=by
 delta as169
 refine gA 3 rfl ?_
 exact Qk <| ⟨rfl,Qa (Qb rfl rfl) (.keep (rfl) rfl (.keep (rfl) rfl (.keep (rfl) rfl (.keep (rfl) rfl (.keep (rfl) rfl (.nil)))))) (fun i hi=>by simp [Qf] at hi ⊢; omega)⟩
theorem as169r (x q:List Pl) (xs:List (List Pl)) (k:Nat) (l:List (List Pl)) (o:Loop) (lb:Nat):AW Tryz.prog 45 [900,4,5,7,903] (some lb) as169 (fun e F' H'=>e = .normal/\Weak 45 [900,4,5,7,903] F' H' [(10,.nils),(4,.ptr 4 0 0),(5,.ptr 5 0 0),(7,.ptr 7 0 0)] [(900,.lp o [(32,.fn (.func 216) [.rp [.rs 4 (x.map cPl)],.rp [.rs 4 ((Qq q).map cPl)]]),(1,.rs 4 (q.map cPl)),(4,.ptr 4 0 0),(5,.ptr 5 0 0),(6,.rs 4 ((Qq q).map cPl)),(7,.ptr 7 0 0),(17,.rs 1 (xs.map cR)),(18,iv (xs.length:Int)),(19,iv (((k):Nat):Int))]),(4,.cells 29 1 [[.nils]] true),(5,.cells 36 1 [[iv 0]] true),(7,.cells 29 1 [[.sl 903 0 (l).length]] false),(903,.cells 85 1 ((l).map cR) true)]) [(33,.nils),(32,.fn (.func 216) [.rp [.rs 4 (x.map cPl)],.rp [.rs 4 ((Qq q).map cPl)]]),(1,.rs 4 (q.map cPl)),(4,.ptr 4 0 0),(5,.ptr 5 0 0),(6,.rs 4 ((Qq q).map cPl)),(7,.ptr 7 0 0),(17,.rs 1 (xs.map cR)),(18,iv (xs.length:Int)),(19,iv (((k):Nat):Int))] [(900,.lp o [(32,.fn (.func 216) [.rp [.rs 4 (x.map cPl)],.rp [.rs 4 ((Qq q).map cPl)]]),(1,.rs 4 (q.map cPl)),(4,.ptr 4 0 0),(5,.ptr 5 0 0),(6,.rs 4 ((Qq q).map cPl)),(7,.ptr 7 0 0),(17,.rs 1 (xs.map cR)),(18,iv (xs.length:Int)),(19,iv (((k):Nat):Int))]),(4,.cells 29 1 [[.nils]] true),(5,.cells 36 1 [[iv 0]] true),(7,.cells 29 1 [[.sl 903 0 (l).length]] false),(903,.cells 85 1 ((l).map cR) true)]:=by
 delta as169
 refine gA 3 rfl ?_
 exact Qk <| ⟨rfl,Qa (Qb rfl rfl) (.keep (rfl) rfl (.keep (rfl) rfl (.keep (rfl) rfl (.keep (rfl) rfl (.keep (rfl) rfl (.nil)))))) (fun i hi=>by simp [Qf] at hi ⊢; omega)⟩
theorem bd169n (x q:List Pl) (xs:List (List Pl)) (k:Nat) (l:List (List Pl)) (hl:l.length<=2000000) (c:List Pl) (hc:0<c.length) (o:Loop) (lb:Nat):AW Tryz.prog 45 [900,4,5,7,903] (some lb) bd169 (fun e F' H'=>e = .normal/\Weak 45 [900,4,5,7,903] F' H' [] [(900,.lp o [(32,.fn (.func 216) [.rp [.rs 4 (x.map cPl)],.rp [.rs 4 ((Qq q).map cPl)]]),(1,.rs 4 (q.map cPl)),(4,.ptr 4 0 0),(5,.ptr 5 0 0),(6,.rs 4 ((Qq q).map cPl)),(7,.ptr 7 0 0),(17,.rs 1 (xs.map cR)),(18,iv (xs.length:Int)),(19,iv (((k):Nat):Int))]),(4,.cells 29 1 [[.nils]] true),(5,.cells 36 1 [[iv 0]] true),(7,.cells 29 1 [[.sl 904 0 (l++[c]).length]] false),(904,.cells 85 1 ((l++[c]).map cR) true),(903,.dead)]) [(10,.rs 4 (c.map cPl)),(4,.ptr 4 0 0),(5,.ptr 5 0 0),(7,.ptr 7 0 0)] [(900,.lp o [(32,.fn (.func 216) [.rp [.rs 4 (x.map cPl)],.rp [.rs 4 ((Qq q).map cPl)]]),(1,.rs 4 (q.map cPl)),(4,.ptr 4 0 0),(5,.ptr 5 0 0),(6,.rs 4 ((Qq q).map cPl)),(7,.ptr 7 0 0),(17,.rs 1 (xs.map cR)),(18,iv (xs.length:Int)),(19,iv (((k):Nat):Int))]),(4,.cells 29 1 [[.nils]] true),(5,.cells 36 1 [[iv 0]] true),(7,.cells 29 1 [[.sl 903 0 (l).length]] false),(903,.cells 85 1 ((l).map cR) true)]:=by
 obtain ⟨c0,cs,rfl⟩:∃ c0 cs,c=c0::cs:=by cases c with | nil=>simp at hc | cons a l=>exact ⟨a,l,rfl⟩
 delta bd169
 refine gA 5 rfl (rs_nil_f rfl rfl (.inl ⟨4,cPl c0,cs.map cPl,rfl⟩) (gR 6 rfl (Qi (l:=(([c0::cs]:List (List Pl))).flatMap cR) (els:=(([c0::cs]:List (List Pl))).map cR) (fl:=true) rfl (by kernel_rfl) rfl rfl (by kernel_rfl) (by kernel_rfl) (gR 0 rfl (QB (f:=cR) (xs:=l) (y:=(c0::cs)) (fl':=true) rfl rfl rfl rfl (rfl) rfl rfl rfl (by decide) rfl (by omega) (by omega) rfl (gR 2 rfl ?_))))))
 exact Qk <| ⟨rfl,(Weak.trans (F1:=[]) (H1:=[(900,.lp o [(32,.fn (.func 216) [.rp [.rs 4 (x.map cPl)],.rp [.rs 4 ((Qq q).map cPl)]]),(1,.rs 4 (q.map cPl)),(4,.ptr 4 0 0),(5,.ptr 5 0 0),(6,.rs 4 ((Qq q).map cPl)),(7,.ptr 7 0 0),(17,.rs 1 (xs.map cR)),(18,iv (xs.length:Int)),(19,iv (((k):Nat):Int))]),(4,.cells 29 1 [[.nils]] true),(5,.cells 36 1 [[iv 0]] true),(7,.cells 29 1 [[.sl 39 0 (l++[c0::cs]).length]] false),(39,.cells 85 1 ((l++[c0::cs]).map cR) true),(903,.dead)]) (Qa (.nil) (.keep (rfl) rfl (.keep (rfl) rfl (.keep (rfl) rfl (.keep (by rw [Xz]; rfl) rfl (.keep (rfl) rfl (.keep (rfl) rfl (.nil))))))) (fun i hi=>by simp [Qf] at hi ⊢; omega)) (Weak.trans (F1:=[]) (Qt (i:=39) (i':=904) (k:=7) rfl rfl (.nil) (by decide) rfl (.sl _ _)) (Qa (.nil) (.keep (rfl) rfl (.keep (rfl) rfl (.keep (rfl) rfl (.keep (rfl) rfl (.keep (rfl) rfl (.keep (rfl) rfl (.nil))))))) (fun i hi=>by simp [Qf] at hi ⊢; omega))))⟩
theorem bd169r (x q:List Pl) (xs:List (List Pl)) (k:Nat) (l:List (List Pl)) (o:Loop) (lb:Nat):AW Tryz.prog 45 [900,4,5,7,903] (some lb) bd169 (fun e F' H'=>e = .ret/\Weak 45 [900,4,5,7,903] F' H' [] [(900,.lp o [(32,.fn (.func 216) [.rp [.rs 4 (x.map cPl)],.rp [.rs 4 ((Qq q).map cPl)]]),(1,.rs 4 (q.map cPl)),(4,.ptr 4 0 0),(5,.ptr 5 0 0),(6,.rs 4 ((Qq q).map cPl)),(7,.ptr 7 0 0),(17,.rs 1 (xs.map cR)),(18,iv (xs.length:Int)),(19,iv (((k):Nat):Int))]),(4,.cells 29 1 [[.nils]] true),(5,.cells 36 1 [[iv 9]] true),(7,.cells 29 1 [[.sl 903 0 (l).length]] false),(903,.cells 85 1 ((l).map cR) true)]) [(10,.nils),(4,.ptr 4 0 0),(5,.ptr 5 0 0),(7,.ptr 7 0 0)] [(900,.lp o [(32,.fn (.func 216) [.rp [.rs 4 (x.map cPl)],.rp [.rs 4 ((Qq q).map cPl)]]),(1,.rs 4 (q.map cPl)),(4,.ptr 4 0 0),(5,.ptr 5 0 0),(6,.rs 4 ((Qq q).map cPl)),(7,.ptr 7 0 0),(17,.rs 1 (xs.map cR)),(18,iv (xs.length:Int)),(19,iv (((k):Nat):Int))]),(4,.cells 29 1 [[.nils]] true),(5,.cells 36 1 [[iv 0]] true),(7,.cells 29 1 [[.sl 903 0 (l).length]] false),(903,.cells 85 1 ((l).map cR) true)]:=by
 delta bd169
 refine gA 5 rfl (rs_nil_n rfl rfl (.inl ⟨rfl,rfl⟩) (gR 8 rfl ?_))
 exact Qk <| ⟨rfl,Qa (.nil) (.keep (rfl) rfl (.keep (rfl) rfl (.keep (rfl) rfl (.keep (rfl) rfl (.keep (rfl) rfl (.nil)))))) (fun i hi=>by simp [Qf] at hi ⊢; omega)⟩
theorem y169n (x q:List Pl) (xs:List (List Pl)) (k:Nat) (l:List (List Pl)) (hl:l.length<=2000000) (c:List Pl) (hc:0<c.length) (r0:Loop) (h:Rec0 Tryz.prog 45 [33] as169 bd169 r0) :
  FCg (XM Tryz.prog) [.yl 900,.rs 4 (c.map cPl)] [(900,.lp r0 [(32,.fn (.func 216) [.rp [.rs 4 (x.map cPl)],.rp [.rs 4 ((Qq q).map cPl)]]),(1,.rs 4 (q.map cPl)),(4,.ptr 4 0 0),(5,.ptr 5 0 0),(6,.rs 4 ((Qq q).map cPl)),(7,.ptr 7 0 0),(17,.rs 1 (xs.map cR)),(18,iv (xs.length:Int)),(19,iv (((k):Nat):Int))]),(4,.cells 29 1 [[.nils]] true),(5,.cells 36 1 [[iv 0]] true),(7,.cells 29 1 [[.sl 903 0 (l).length]] false),(903,.cells 85 1 ((l).map cR) true)] (.bool true) [(900,.lp r0 [(32,.fn (.func 216) [.rp [.rs 4 (x.map cPl)],.rp [.rs 4 ((Qq q).map cPl)]]),(1,.rs 4 (q.map cPl)),(4,.ptr 4 0 0),(5,.ptr 5 0 0),(6,.rs 4 ((Qq q).map cPl)),(7,.ptr 7 0 0),(17,.rs 1 (xs.map cR)),(18,iv (xs.length:Int)),(19,iv (((k):Nat):Int))]),(4,.cells 29 1 [[.nils]] true),(5,.cells 36 1 [[iv 0]] true),(7,.cells 29 1 [[.sl 904 0 (l++[c]).length]] false),(904,.cells 85 1 ((l++[c]).map cR) true),(903,.dead)] true:=by
 have:=J9 (P:=Tryz.prog) (F:=[(32,.fn (.func 216) [.rp [.rs 4 (x.map cPl)],.rp [.rs 4 ((Qq q).map cPl)]]),(1,.rs 4 (q.map cPl)),(4,.ptr 4 0 0),(5,.ptr 5 0 0),(6,.rs 4 ((Qq q).map cPl)),(7,.ptr 7 0 0),(17,.rs 1 (xs.map cR)),(18,iv (xs.length:Int)),(19,iv (((k):Nat):Int))]) (N:=45) (x:=as169) (y:=bd169) h.ca h.cb (li:=900) (ps:=[33]) (vs:=[.rs 4 (c.map cPl)]) (J:=[(4,.cells 29 1 [[.nils]] true),(5,.cells 36 1 [[iv 0]] true),(7,.cells 29 1 [[.sl 903 0 (l).length]] false),(903,.cells 85 1 ((l).map cR) true)]) (J1:=[(4,.cells 29 1 [[.nils]] true),(5,.cells 36 1 [[iv 0]] true),(7,.cells 29 1 [[.sl 903 0 (l).length]] false),(903,.cells 85 1 ((l).map cR) true)]) (J':=[(4,.cells 29 1 [[.nils]] true),(5,.cells 36 1 [[iv 0]] true),(7,.cells 29 1 [[.sl 904 0 (l++[c]).length]] false),(904,.cells 85 1 ((l++[c]).map cR) true),(903,.dead)]) (Fb:=[(10,.rs 4 (c.map cPl)),(4,.ptr 4 0 0),(5,.ptr 5 0 0),(7,.ptr 7 0 0)]) (Z0:=[900,4,5,7,903]) .normal none (.inl ⟨rfl,rfl⟩)
  rfl rfl (fun i hi=>Q7.1 hi) (by simp) (fun i h=>Q7.2 h) (fun i hi=>Q7.1 (by simp [Qf] at hi ⊢; omega)) h.state h.params rfl rfl h.size (fun t v h=>get_mem h) (fun lb o=>as169n x q xs k l c o lb) (fun lb o=>bd169n x q xs k l hl c hc o lb)
 rw [rec_same h.state h.pending] at this
 exact this
theorem y169r (x q:List Pl) (xs:List (List Pl)) (k:Nat) (l:List (List Pl)) (r0:Loop) (h:Rec0 Tryz.prog 45 [33] as169 bd169 r0) :
  FCg (XM Tryz.prog) [.yl 900,.nils] [(900,.lp r0 [(32,.fn (.func 216) [.rp [.rs 4 (x.map cPl)],.rp [.rs 4 ((Qq q).map cPl)]]),(1,.rs 4 (q.map cPl)),(4,.ptr 4 0 0),(5,.ptr 5 0 0),(6,.rs 4 ((Qq q).map cPl)),(7,.ptr 7 0 0),(17,.rs 1 (xs.map cR)),(18,iv (xs.length:Int)),(19,iv (((k):Nat):Int))]),(4,.cells 29 1 [[.nils]] true),(5,.cells 36 1 [[iv 0]] true),(7,.cells 29 1 [[.sl 903 0 (l).length]] false),(903,.cells 85 1 ((l).map cR) true)] (.bool false) [(900,.lp { r0 with state:=.done,pending:=some .ret } [(32,.fn (.func 216) [.rp [.rs 4 (x.map cPl)],.rp [.rs 4 ((Qq q).map cPl)]]),(1,.rs 4 (q.map cPl)),(4,.ptr 4 0 0),(5,.ptr 5 0 0),(6,.rs 4 ((Qq q).map cPl)),(7,.ptr 7 0 0),(17,.rs 1 (xs.map cR)),(18,iv (xs.length:Int)),(19,iv (((k):Nat):Int))]),(4,.cells 29 1 [[.nils]] true),(5,.cells 36 1 [[iv 9]] true),(7,.cells 29 1 [[.sl 903 0 (l).length]] false),(903,.cells 85 1 ((l).map cR) true)] true:=by
 have:=J9 (P:=Tryz.prog) (F:=[(32,.fn (.func 216) [.rp [.rs 4 (x.map cPl)],.rp [.rs 4 ((Qq q).map cPl)]]),(1,.rs 4 (q.map cPl)),(4,.ptr 4 0 0),(5,.ptr 5 0 0),(6,.rs 4 ((Qq q).map cPl)),(7,.ptr 7 0 0),(17,.rs 1 (xs.map cR)),(18,iv (xs.length:Int)),(19,iv (((k):Nat):Int))]) (N:=45) (x:=as169) (y:=bd169) h.ca h.cb (li:=900) (ps:=[33]) (vs:=[.nils]) (J:=[(4,.cells 29 1 [[.nils]] true),(5,.cells 36 1 [[iv 0]] true),(7,.cells 29 1 [[.sl 903 0 (l).length]] false),(903,.cells 85 1 ((l).map cR) true)]) (J1:=[(4,.cells 29 1 [[.nils]] true),(5,.cells 36 1 [[iv 0]] true),(7,.cells 29 1 [[.sl 903 0 (l).length]] false),(903,.cells 85 1 ((l).map cR) true)]) (J':=[(4,.cells 29 1 [[.nils]] true),(5,.cells 36 1 [[iv 9]] true),(7,.cells 29 1 [[.sl 903 0 (l).length]] false),(903,.cells 85 1 ((l).map cR) true)]) (Fb:=[(10,.nils),(4,.ptr 4 0 0),(5,.ptr 5 0 0),(7,.ptr 7 0 0)]) (Z0:=[900,4,5,7,903]) .ret (some .ret) (.inr ⟨rfl,rfl⟩)
  rfl rfl (fun i hi=>Q7.1 hi) (by simp) (fun i h=>Q7.2 h) (fun i hi=>Q7.1 (by simp [Qf] at hi ⊢; omega)) h.state h.params rfl rfl h.size (fun t v h=>get_mem h) (fun lb o=>as169r x q xs k l o lb) (fun lb o=>bd169r x q xs k l o lb)
 exact this
def mcv216:MC:=(.seq (.reg [oD 8 1 1 [],oM 4 8 [0,0]] false) (.seq (.reg [oD 9 1 2 [],oN 10 (.len (.t 9)) [0],oN 11 (.mv (.c (.int .i64 0))) []] false) (.block 0 (.loop (.seq (.reg [oN 12 (.bin .lss (.t 11) (.t 10)) []] false) (.seq (.cond (.t 12) .skip (.exit 0)) (.seq (.block 1 (.seq (.reg [oN 13 (.ixsl 4 (.t 9) (.t 11)) [],oN 14 (.ld true 4 (.t 13)) [0],oN 6 (.alloc 90 4 [(.int .i64 0),(.int .i64 0),(.int .i64 0),(.int .i64 0)]) [],⟨none,(.st 4 (.t 6) (.t 14)),none,[2,1,0,1,2]⟩] false) (.seq (.seq (.reg [oM 15 4 [],oN 16 (.len (.t 15)) [0],oN 17 (.bin .geq (.t 16) (.c (.int .i64 48))) [1]] false) (.cond (.t 17) (.seq (.reg [oM 18 0 [],oN 19 (.callv (.t 18) [(.c .nils)]) [0]] false) .ret) .skip)) (.seq (.seq (.reg [oM 20 4 [],oN 21 (.ld true 4 (.t 6)) [],oN 22 (.call 217 [(.t 21)]) [1],oN 23 (.bslice 90 4 [(.int .i64 0),(.int .i64 0),(.int .i64 0),(.int .i64 0)] 1 [(0,(.t 22))]) [2],oN 24 (.bslice 85 1 [.nils] 2 [(0,(.t 20)),(1,(.t 23))]) [0,3],oN 25 (.call 160 [(.t 24)]) [4,2],oN 26 (.call 168 [(.t 25)]) [5,5],oM 7 26 [6,6,0,1,2,3,4,5,6]] false) (.seq (.reg [oM 27 7 [],oN 28 (.len (.t 27)) [0],oN 29 (.bin .gtr (.t 28) (.c (.int .i64 0))) [1],oM 30 29 [2],pM 31 0 30 true [3],pM 32 7 30 true [3],oG 33 (.callv (.t 31) [(.t 32)]) 30 true [4,5,3,3],oG 34 (.un .not (.t 33)) 30 true [6,3],oN 35 (.pick (.t 30) (.t 34) (.c (.bool false))) [3,7]] false) (.cond (.t 35) .ret .skip))) (.reg [oM 36 4 [],oN 37 (.ld true 4 (.t 6)) [],oN 38 (.bslice 90 4 [(.int .i64 0),(.int .i64 0),(.int .i64 0),(.int .i64 0)] 1 [(0,(.t 37))]) [1],oN 39 (.bslice 85 1 [.nils] 2 [(0,(.t 36)),(1,(.t 38))]) [0,2],oN 40 (.call 160 [(.t 39)]) [3],oN 41 (.call 168 [(.t 40)]) [4,4],oM 4 41 [5,5,0,1,2,3,4,5]] false))))) (.reg [oN 42 (.bin .add (.t 11) (.c (.int .i64 1))) [],oM 11 42 [0]] false))))))))
theorem mcOkv216:okM Tryz.prog Tryz.f216 43=some mcv216:=by kernel_rfl
theorem vc216 (x q:List Pl) (hx:x.length<=48) (hq:(Qq q).length<=100) (hfs:∀ p∈Qq q,-9223372036854775807<=p.b/\p.b<=9223372036854775807) (xs:List (List Pl)) (k:Nat) (l:List (List Pl)) (hl:l.length<=1000000) (b:Bool) (hb:prtB x (Qq q)=b) (r0:Loop) (h:Rec0 Tryz.prog 45 [33] as169 bd169 r0):FC Tryz.prog 216 [.yl 900,.rp [.rs 4 (x.map cPl)],.rp [.rs 4 ((Qq q).map cPl)]] [(900,.lp r0 [(32,.fn (.func 216) [.rp [.rs 4 (x.map cPl)],.rp [.rs 4 ((Qq q).map cPl)]]),(1,.rs 4 (q.map cPl)),(4,.ptr 4 0 0),(5,.ptr 5 0 0),(6,.rs 4 ((Qq q).map cPl)),(7,.ptr 7 0 0),(17,.rs 1 (xs.map cR)),(18,iv (xs.length:Int)),(19,iv (((k):Nat):Int))]),(4,.cells 29 1 [[.nils]] true),(5,.cells 36 1 [[iv 0]] true),(7,.cells 29 1 [[.sl 901 0 (l).length]] false),(901,.cells 85 1 ((l).map cR) true)] (.tup []) [(900,.lp (cond b { r0 with state:=.done,pending:=some .ret } r0) [(32,.fn (.func 216) [.rp [.rs 4 (x.map cPl)],.rp [.rs 4 ((Qq q).map cPl)]]),(1,.rs 4 (q.map cPl)),(4,.ptr 4 0 0),(5,.ptr 5 0 0),(6,.rs 4 ((Qq q).map cPl)),(7,.ptr 7 0 0),(17,.rs 1 (xs.map cR)),(18,iv (xs.length:Int)),(19,iv (((k):Nat):Int))]),(4,.cells 29 1 [[.nils]] true),(5,.cells 36 1 [[iv (cond b 9 0)]] true),(7,.cells 29 1 [[.sl 903 0 (l++prtL x (Qq q)).length]] false),(903,.cells 85 1 ((l++prtL x (Qq q)).map cR) true),(901,.dead)] true:=by
 refine Qj (nt:=43) Tryz.func216 rfl rfl mcOkv216 (nL rfl) ?_
 delta mcv216
 refine gA 8 rfl (Qh rfl rfl (gR 3 rfl ?_))
 refine Qr (α:=Nat×List Pl×List (List Pl)) (fun u=>(Qq q).length-u.1) (fun u=>[(0,.yl 900),(4,.rs 4 ((u.2.1).map cPl)),(9,.rs 4 ((Qq q).map cPl)),(10,iv ((Qq q).length:Int)),(11,iv (((u.1):Nat):Int))]) (fun u=>[(900,.lp r0 [(32,.fn (.func 216) [.rp [.rs 4 (x.map cPl)],.rp [.rs 4 ((Qq q).map cPl)]]),(1,.rs 4 (q.map cPl)),(4,.ptr 4 0 0),(5,.ptr 5 0 0),(6,.rs 4 ((Qq q).map cPl)),(7,.ptr 7 0 0),(17,.rs 1 (xs.map cR)),(18,iv (xs.length:Int)),(19,iv (((k):Nat):Int))]),(4,.cells 29 1 [[.nils]] true),(5,.cells 36 1 [[iv 0]] true),(7,.cells 29 1 [[.sl 903 0 (u.2.2).length]] false),(903,.cells 85 1 ((u.2.2).map cR) true),(901,.dead)]) (fun u=>u.1<=(Qq q).length/\u.2.2++prtL u.2.1 ((Qq q).drop u.1)=l++prtL x (Qq q)/\prtB u.2.1 ((Qq q).drop u.1)=b/\u.2.2.length<=l.length+u.1/\u.2.1.length<=48) (0,x,l) (⟨by omega,rfl,hb,by dsimp only; omega,hx⟩)
  ((Weak.trans (F1:=[(0,.yl 900),(4,.rs 4 ((x).map cPl)),(9,.rs 4 ((Qq q).map cPl)),(10,iv ((Qq q).length:Int)),(11,iv (((0):Nat):Int))]) (H1:=[(900,.lp r0 [(32,.fn (.func 216) [.rp [.rs 4 (x.map cPl)],.rp [.rs 4 ((Qq q).map cPl)]]),(1,.rs 4 (q.map cPl)),(4,.ptr 4 0 0),(5,.ptr 5 0 0),(6,.rs 4 ((Qq q).map cPl)),(7,.ptr 7 0 0),(17,.rs 1 (xs.map cR)),(18,iv (xs.length:Int)),(19,iv (((k):Nat):Int))]),(4,.cells 29 1 [[.nils]] true),(5,.cells 36 1 [[iv 0]] true),(7,.cells 29 1 [[.sl 901 0 (l).length]] false),(901,.cells 85 1 ((l).map cR) true)]) (Qa (Qb rfl rfl) (.keep (rfl) rfl (.keep (rfl) rfl (.keep (rfl) rfl (.keep (rfl) rfl (.keep (rfl) rfl (.nil)))))) (fun i hi=>by simp [Qf] at hi ⊢; omega)) (Weak.trans (F1:=[(0,.yl 900),(4,.rs 4 ((x).map cPl)),(9,.rs 4 ((Qq q).map cPl)),(10,iv ((Qq q).length:Int)),(11,iv (((0):Nat):Int))]) (Qt (i:=901) (i':=903) (k:=7) rfl rfl (.cons rfl (.same _) (.cons rfl (.same _) (.cons rfl (.same _) (.cons rfl (.same _) (.cons rfl (.same _) (.nil)))))) (by decide) rfl (.sl _ _)) (Qa (Qb rfl rfl) (.keep (rfl) rfl (.keep (rfl) rfl (.keep (rfl) rfl (.keep (rfl) rfl (.keep (rfl) rfl (.keep (rfl) rfl (.nil))))))) (fun i hi=>by simp [Qf] at hi ⊢; omega))))) ?_
 rintro ⟨j,rest,m⟩ ⟨hj,hinv,hbb,hml,hrl⟩
 dsimp only at hj hinv hbb hml hrl ⊢
 refine gT 5 rfl (Qe rfl (fun h12=>?_) (fun h12=>?_))
 ·first | replace h12:=of_decide_eq_true h12 | skip
  refine gK 5 rfl ?_
  obtain ⟨p,hp,hpm⟩:=Qo (L:=Qq q) (k:=j) (by omega)
  rw [prtB_at hp] at hbb
  refine Qp (f:=cPl) (y:=p) rfl rfl rfl (by omega) hp (gR 0 rfl (QG (cs:=cPl p) rfl rfl (nL rfl) rfl (gR 7 rfl (Qh rfl rfl (gR 0 rfl (Jk rfl rfl rfl (gR 1 rfl (Qe rfl (fun h17=>?_) (fun h17=>?_)))))))))
  ·first | replace h17:=of_decide_eq_true h17 | skip
   rw [prtL_st hp (by omega),List.append_nil] at hinv
   rw [show decide (48<=rest.length)=true from decide_eq_true (by omega),Bool.true_or] at hbb
   refine gK 3 rfl (JG (H':=[(900,.lp { r0 with state:=.done,pending:=some .ret } [(32,.fn (.func 216) [.rp [.rs 4 (x.map cPl)],.rp [.rs 4 ((Qq q).map cPl)]]),(1,.rs 4 (q.map cPl)),(4,.ptr 4 0 0),(5,.ptr 5 0 0),(6,.rs 4 ((Qq q).map cPl)),(7,.ptr 7 0 0),(17,.rs 1 (xs.map cR)),(18,iv (xs.length:Int)),(19,iv (((k):Nat):Int))]),(4,.cells 29 1 [[.nils]] true),(5,.cells 36 1 [[iv 9]] true),(7,.cells 29 1 [[.sl 903 0 (m).length]] false),(903,.cells 85 1 ((m).map cR) true)]) [(900,.lp r0 [(32,.fn (.func 216) [.rp [.rs 4 (x.map cPl)],.rp [.rs 4 ((Qq q).map cPl)]]),(1,.rs 4 (q.map cPl)),(4,.ptr 4 0 0),(5,.ptr 5 0 0),(6,.rs 4 ((Qq q).map cPl)),(7,.ptr 7 0 0),(17,.rs 1 (xs.map cR)),(18,iv (xs.length:Int)),(19,iv (((k):Nat):Int))]),(4,.cells 29 1 [[.nils]] true),(5,.cells 36 1 [[iv 0]] true),(7,.cells 29 1 [[.sl 903 0 (m).length]] false),(903,.cells 85 1 ((m).map cR) true)] rfl rfl rfl (y169r x q xs k m r0 h) (.cons (Qd rfl) (.cons (Qd rfl) (.nil))) (.cons rfl (.cons rfl (.cons rfl (.cons rfl (.cons rfl (.nil)))))) rfl rfl rfl (gR 2 rfl ?_))
   subst hbb
   subst hinv
   exact Qk <| XL (by first | exact .inl rfl | exact .inr rfl) rfl sm (.keep (rfl) rfl (.keep (rfl) rfl (.keep (rfl) rfl (.keep (rfl) rfl (.keep (rfl) rfl (.keep (rfl) rfl (.nil))))))) (.cons rfl rfl rfl (.cons rfl rfl rfl (.cons rfl rfl rfl (.cons rfl rfl rfl (.dead rfl rfl (.nil))))))
  ·first | replace h17:=of_decide_eq_false h17 | skip
   rw [prtL_at hp (by omega),← List.append_assoc] at hinv
   rw [show decide (48<=rest.length)=false from decide_eq_false (by omega),Bool.false_or] at hbb
   refine gK 6 rfl (cN rfl rfl (vc217 p (hfs p hpm)) (gR 0 rfl (Qi (l:=(([X1 p]:List Pl)).flatMap cPl) (els:=(([X1 p]:List Pl)).map cPl) (fl:=true) rfl (by kernel_rfl) rfl rfl (by kernel_rfl) (by kernel_rfl) (gR 0 rfl (Qi (l:=[.rs 4 (rest.map cPl),.sl 23 0 1]) (els:=[[.rs 4 (rest.map cPl)],[.sl 23 0 1]]) (fl:=false) rfl (by kernel_rfl) rfl rfl (by kernel_rfl) (by kernel_rfl) (gR 0 rfl (Qx [24,23] rfl rfl (vc160p rest (X1 p) (by omega)) (.cons (hv_rows (by simp) rfl (.rs (.sl (by simp) rfl rfl .nil)) rfl) (.nil)) rfl (gR 0 rfl (Qx [1005] rfl rfl (vc168 (rest++[X1 p]) ⟨by rw [Xz]; omega⟩) (.cons (QL (f:=cPl) (xs:=rest++[X1 p]) (by simp) rfl rfl) (.nil)) rfl (gR 5 rfl (Qh rfl rfl ?_)))))))))))
   refine gR 0 rfl (Q9 rfl rfl rfl rfl (fun h29=>?_) (fun h29=>?_))
   ·skip
    refine gR 3 rfl (JG [(900,.lp r0 [(32,.fn (.func 216) [.rp [.rs 4 (x.map cPl)],.rp [.rs 4 ((Qq q).map cPl)]]),(1,.rs 4 (q.map cPl)),(4,.ptr 4 0 0),(5,.ptr 5 0 0),(6,.rs 4 ((Qq q).map cPl)),(7,.ptr 7 0 0),(17,.rs 1 (xs.map cR)),(18,iv (xs.length:Int)),(19,iv (((k):Nat):Int))]),(4,.cells 29 1 [[.nils]] true),(5,.cells 36 1 [[iv 0]] true),(7,.cells 29 1 [[.sl 903 0 (m).length]] false),(903,.cells 85 1 ((m).map cR) true)] rfl rfl rfl (y169n x q xs k m (by omega) (Qq (rest++[X1 p])) (by omega) r0 h) (.cons (Qd rfl) (.cons (Qd rfl) (.nil))) (.cons rfl (.cons rfl (.cons rfl (.cons rfl (.cons rfl (.nil)))))) rfl rfl rfl (gR 5 rfl (QE (F0:=[(0,.yl 900),(4,.rs 4 (rest.map cPl)),(6,.ptr 6 0 0),(9,.rs 4 ((Qq q).map cPl)),(10,iv ((Qq q).length:Int)),(11,iv (((j):Nat):Int))]) (H0:=[(900,.lp r0 [(32,.fn (.func 216) [.rp [.rs 4 (x.map cPl)],.rp [.rs 4 ((Qq q).map cPl)]]),(1,.rs 4 (q.map cPl)),(4,.ptr 4 0 0),(5,.ptr 5 0 0),(6,.rs 4 ((Qq q).map cPl)),(7,.ptr 7 0 0),(17,.rs 1 (xs.map cR)),(18,iv (xs.length:Int)),(19,iv (((k):Nat):Int))]),(4,.cells 29 1 [[.nils]] true),(5,.cells 36 1 [[iv 0]] true),(7,.cells 29 1 [[.sl 903 0 (m++[Qq (rest++[X1 p])]).length]] false),(903,.cells 85 1 ((m++[Qq (rest++[X1 p])]).map cR) true),(901,.dead),(6,.cells 90 4 [cPl p] true)]) (Weak.trans (F1:=[(0,.yl 900),(4,.rs 4 (rest.map cPl)),(6,.ptr 6 0 0),(9,.rs 4 ((Qq q).map cPl)),(10,iv ((Qq q).length:Int)),(11,iv (((j):Nat):Int))]) (H1:=[(900,.lp r0 [(32,.fn (.func 216) [.rp [.rs 4 (x.map cPl)],.rp [.rs 4 ((Qq q).map cPl)]]),(1,.rs 4 (q.map cPl)),(4,.ptr 4 0 0),(5,.ptr 5 0 0),(6,.rs 4 ((Qq q).map cPl)),(7,.ptr 7 0 0),(17,.rs 1 (xs.map cR)),(18,iv (xs.length:Int)),(19,iv (((k):Nat):Int))]),(4,.cells 29 1 [[.nils]] true),(5,.cells 36 1 [[iv 0]] true),(7,.cells 29 1 [[.sl 904 0 (m++[Qq (rest++[X1 p])]).length]] false),(904,.cells 85 1 ((m++[Qq (rest++[X1 p])]).map cR) true),(901,.dead),(6,.cells 90 4 [cPl p] true)]) (Qa (Qb rfl rfl) (.keep (rfl) rfl (.keep (rfl) rfl (.keep (rfl) rfl (.keep (rfl) rfl (.keep (rfl) rfl (.keep (rfl) rfl (.keep (rfl) rfl (.nil)))))))) (fun i hi=>by simp [Qf] at hi ⊢; omega)) (Weak.trans (F1:=[(0,.yl 900),(4,.rs 4 (rest.map cPl)),(6,.ptr 6 0 0),(9,.rs 4 ((Qq q).map cPl)),(10,iv ((Qq q).length:Int)),(11,iv (((j):Nat):Int))]) (Qt (i:=904) (i':=903) (k:=7) rfl rfl (.cons rfl (.same _) (.cons rfl (.same _) (.cons rfl (.same _) (.cons rfl (.same _) (.cons rfl (.same _) (.cons rfl (.same _) (.nil))))))) (by decide) rfl (.sl _ _)) (Qa (Qb rfl rfl) (.keep (rfl) rfl (.keep (rfl) rfl (.keep (rfl) rfl (.keep (rfl) rfl (.keep (rfl) rfl (.keep (rfl) rfl (.keep (rfl) rfl (.nil)))))))) (fun i hi=>by simp [Qf] at hi ⊢; omega)))) (gK 3 rfl (Qi (l:=(([p]:List Pl)).flatMap cPl) (els:=(([p]:List Pl)).map cPl) (fl:=true) rfl (by kernel_rfl) rfl rfl (by kernel_rfl) (by kernel_rfl) (gR 0 rfl (Qi (l:=[.rs 4 (rest.map cPl),.sl 38 0 1]) (els:=[[.rs 4 (rest.map cPl)],[.sl 38 0 1]]) (fl:=false) rfl (by kernel_rfl) rfl rfl (by kernel_rfl) (by kernel_rfl) (gR 0 rfl (Qx [39,38] rfl rfl (vc160p rest p (by omega)) (.cons (hv_rows (by simp) rfl (.rs (.sl (by simp) rfl rfl .nil)) rfl) (.nil)) rfl (gR 0 rfl (Qx [1005] rfl rfl (vc168 (rest++[p]) ⟨by rw [Xz]; omega⟩) (.cons (QL (f:=cPl) (xs:=rest++[p]) (by simp) rfl rfl) (.nil)) rfl ?_)))))))))))
    refine gR 3 rfl ?_
    first | refine Qg rfl rfl rfl (by omega) ?_ | refine QH rfl rfl rfl rfl ?_
    refine gR 2 rfl ?_
    rw [cutL_1 (by omega)] at hinv
    exact Q8 <| ⟨(j+1,Qq (rest++[p]),m++[Qq (rest++[X1 p])]),⟨by dsimp only; omega,hinv,hbb,by dsimp only; rw [Xz]; omega,by have:=lean_snoc rest p; dsimp only; omega⟩,by dsimp only; omega,Qa (Qb rfl rfl) (.keep (rfl) rfl (.keep (rfl) rfl (.keep (rfl) rfl (.keep (rfl) rfl (.keep (rfl) rfl (.keep (rfl) rfl (.nil))))))) (fun i hi=>by simp [Qf] at hi ⊢; omega)⟩
   ·skip
    refine gR 9 rfl (QE (F0:=[(0,.yl 900),(4,.rs 4 (rest.map cPl)),(6,.ptr 6 0 0),(9,.rs 4 ((Qq q).map cPl)),(10,iv ((Qq q).length:Int)),(11,iv (((j):Nat):Int))]) (H0:=[(900,.lp r0 [(32,.fn (.func 216) [.rp [.rs 4 (x.map cPl)],.rp [.rs 4 ((Qq q).map cPl)]]),(1,.rs 4 (q.map cPl)),(4,.ptr 4 0 0),(5,.ptr 5 0 0),(6,.rs 4 ((Qq q).map cPl)),(7,.ptr 7 0 0),(17,.rs 1 (xs.map cR)),(18,iv (xs.length:Int)),(19,iv (((k):Nat):Int))]),(4,.cells 29 1 [[.nils]] true),(5,.cells 36 1 [[iv 0]] true),(7,.cells 29 1 [[.sl 903 0 (m).length]] false),(903,.cells 85 1 ((m).map cR) true),(901,.dead),(6,.cells 90 4 [cPl p] true)]) (Qa (Qb rfl rfl) (.keep (rfl) rfl (.keep (rfl) rfl (.keep (rfl) rfl (.keep (rfl) rfl (.keep (rfl) rfl (.keep (rfl) rfl (.keep (rfl) rfl (.nil)))))))) (fun i hi=>by simp [Qf] at hi ⊢; omega)) (gK 3 rfl (Qi (l:=(([p]:List Pl)).flatMap cPl) (els:=(([p]:List Pl)).map cPl) (fl:=true) rfl (by kernel_rfl) rfl rfl (by kernel_rfl) (by kernel_rfl) (gR 0 rfl (Qi (l:=[.rs 4 (rest.map cPl),.sl 38 0 1]) (els:=[[.rs 4 (rest.map cPl)],[.sl 38 0 1]]) (fl:=false) rfl (by kernel_rfl) rfl rfl (by kernel_rfl) (by kernel_rfl) (gR 0 rfl (Qx [39,38] rfl rfl (vc160p rest p (by omega)) (.cons (hv_rows (by simp) rfl (.rs (.sl (by simp) rfl rfl .nil)) rfl) (.nil)) rfl (gR 0 rfl (Qx [1005] rfl rfl (vc168 (rest++[p]) ⟨by rw [Xz]; omega⟩) (.cons (QL (f:=cPl) (xs:=rest++[p]) (by simp) rfl rfl) (.nil)) rfl (gR 3 rfl ?_))))))))))
    first | refine Qg rfl rfl rfl (by omega) ?_ | refine QH rfl rfl rfl rfl ?_
    refine gR 2 rfl ?_
    rw [cutL_0 (by omega),List.append_nil] at hinv
    exact Q8 <| ⟨(j+1,Qq (rest++[p]),m),⟨by dsimp only; omega,hinv,hbb,by dsimp only; omega,by have:=lean_snoc rest p; dsimp only; omega⟩,by dsimp only; omega,Qa (Qb rfl rfl) (.keep (rfl) rfl (.keep (rfl) rfl (.keep (rfl) rfl (.keep (rfl) rfl (.keep (rfl) rfl (.keep (rfl) rfl (.nil))))))) (fun i hi=>by simp [Qf] at hi ⊢; omega)⟩
 ·first | replace h12:=of_decide_eq_false h12 | skip
  refine gK 1 rfl ?_
  rw [List.drop_eq_nil_of_le (by omega)] at hbb hinv
  subst hbb
  have e:m=l++prtL x (Qq q):=by rw [← hinv]; exact (List.append_nil _).symm
  subst e
  exact Qk <| XL (by first | exact .inl rfl | exact .inr rfl) rfl sm (.keep (rfl) rfl (.keep (rfl) rfl (.keep (rfl) rfl (.keep (rfl) rfl (.keep (rfl) rfl (.keep (rfl) rfl (.nil))))))) (.cons rfl rfl rfl (.cons rfl rfl rfl (.cons rfl rfl rfl (.cons rfl rfl rfl (.dead rfl rfl (.nil))))))
def mcv169:MC:=(.seq (.reg [oN 4 (.alloc 29 1 [.nils]) [],oN 5 (.alloc 36 1 [(.int .i64 0)]) []] false) (.seq (.seq (.reg [oM 11 1 [],oN 12 (.call 154 [(.t 11)]) [0],oN 13 (.un .not (.t 12)) [1]] false) (.cond (.t 13) (.seq (.reg [oM 14 0 [],⟨none,(.st 1 (.t 4) (.t 14)),none,[0,0]⟩,⟨none,(.st 1 (.t 5) (.c (.int .i64 0))),none,[1,0,1]⟩] false) .ret) .skip)) (.seq (.reg [oM 15 1 [],oN 16 (.call 168 [(.t 15)]) [0],oM 6 16 [1,1,0,1]] false) (.seq (.reg [oN 7 (.alloc 29 1 [.nils]) []] false) (.seq (.seq (.reg [oM 17 0 [],oN 18 (.len (.t 17)) [0],oN 19 (.mv (.c (.int .i64 0))) []] false) (.block 0 (.loop (.seq (.reg [oN 20 (.bin .lss (.t 19) (.t 18)) []] false) (.seq (.cond (.t 20) .skip (.exit 0)) (.seq (.block 1 (.seq (.reg [oN 21 (.ixsl 1 (.t 17) (.t 19)) [],oD 22 1 21 [0],oM 9 22 [1,0,1]] false) (.seq (.seq (.reg [oM 23 9 [],oM 24 1 [],oN 25 (.call 89 [(.t 23),(.t 24)]) [0,1]] false) (.cond (.t 25) (.seq (.reg [oD 26 1 7 [],oM 27 9 [],oN 28 (.bslice 85 1 [.nils] 1 [(0,(.t 27))]) [1],oN 29 (.app 85 1 24 [.nils] (.t 26) (.t 28)) [0,2],⟨none,(.st 1 (.t 7) (.t 29)),none,[3,3,0,1,2,3]⟩] false) (.exit 1)) .skip)) (.seq (.reg [oM 30 9 [],oM 31 6 [],oN 32 (.call 197 [(.t 30),(.t 31)]) [0,1]] false) (.block 2 (.rfunc (.t 32) [33] (.reg [oM 10 33 []] false) (.block 3 (.seq (.seq (.reg [oM 34 10 [],oN 35 (.isnil true false (.t 34)) [0]] false) (.cond (.t 35) (.seq (.reg [⟨none,(.st 1 (.t 4) (.c .nils)),none,[]⟩,⟨none,(.st 1 (.t 5) (.c (.int .i64 9))),none,[0,0]⟩] false) .ret) .skip)) (.reg [oD 36 1 7 [],oM 37 10 [],oN 38 (.bslice 85 1 [.nils] 1 [(0,(.t 37))]) [1],oN 39 (.app 85 1 24 [.nils] (.t 36) (.t 38)) [0,2],⟨none,(.st 1 (.t 7) (.t 39)),none,[3,3,0,1,2,3]⟩] false))))))))) (.reg [oN 40 (.bin .add (.t 19) (.c (.int .i64 1))) [],oM 19 40 [0]] false))))))) (.seq (.seq (.reg [oD 41 1 7 [],oN 42 (.len (.t 41)) [0],oN 43 (.bin .gtr (.t 42) (.c (.int .i64 200))) [1]] false) (.cond (.t 43) (.seq (.reg [⟨none,(.st 1 (.t 4) (.c .nils)),none,[]⟩,⟨none,(.st 1 (.t 5) (.c (.int .i64 9))),none,[0,0]⟩] false) .ret) .skip)) (.seq (.reg [oD 44 1 7 [],⟨none,(.st 1 (.t 4) (.t 44)),none,[0,0]⟩,⟨none,(.st 1 (.t 5) (.c (.int .i64 0))),none,[1,0,1]⟩] false) .ret)))))))
theorem mcOkv169:okM Tryz.prog Tryz.f169 45=some mcv169:=by kernel_rfl
theorem vc169 (xs:List (List Pl)) (hx:OkPs xs) (q:List Pl) (hq:OkC q):FC Tryz.prog 169 [.rs 1 (xs.map cR),.rs 4 (q.map cPl)] [] (.tup [.rs 1 ((wthS xs q).1.map cR),iv (wthS xs q).2]) [] true:=by
 have hxn:=hx.n
 have hqn:=hq.n
 have hln:=(leanO_sub q).1
 refine Qj (nt:=45) Tryz.func169 rfl rfl mcOkv169 (nL rfl) ?_
 delta mcv169
 refine gA 9 rfl (cN rfl rfl (vc154 q hq) ?_)
 cases h12:QX q
 ·skip
  refine gR 10 rfl ?_
  rw [wth_1 h12]
  exact Qk <| Qs rfl (Xc (.cons sm (.cons sm .nil))) .nil
 ·skip
  refine gR 5 rfl ?_
  have hfs:∀ p∈Qq q,-9223372036854775807<=p.b/\p.b<=9223372036854775807:=fun p hp=>by
   have hv:XQ [q]=true:=by unfold QX at h12; exact (Bool.and_eq_true _ _ ▸ h12).1
   have:=(valid_b ((valid_all hv q (by simp)).2 p ((leanO_sub q).2 p hp))).2
   omega
  refine gI 2 rfl (cN rfl rfl (vc168 q hq) (gR 8 rfl (QE (F0:=[(0,.rs 1 (xs.map cR)),(1,.rs 4 (q.map cPl)),(4,.ptr 4 0 0),(5,.ptr 5 0 0),(6,.rs 4 ((Qq q).map cPl)),(7,.ptr 7 0 0)]) (H0:=[(4,.cells 29 1 [[.nils]] true),(5,.cells 36 1 [[iv 0]] true),(7,.cells 29 1 [[.sl 901 0 (([]:List (List Pl))).length]] false),(901,.cells 85 1 ((([]:List (List Pl))).map cR) true)]) (Weak.trans (F1:=[(0,.rs 1 (xs.map cR)),(1,.rs 4 (q.map cPl)),(4,.ptr 4 0 0),(5,.ptr 5 0 0),(6,.rs 4 ((Qq q).map cPl)),(7,.ptr 7 0 0)]) (H1:=[(4,.cells 29 1 [[.nils]] true),(5,.cells 36 1 [[iv 0]] true),(7,.cells 29 1 [[.nils]] true)]) (Qa (Qb rfl rfl) (.keep (rfl) rfl (.keep (rfl) rfl (.keep (rfl) rfl (.nil)))) (fun i h=>by cases h)) (Weak.trans (F1:=[(0,.rs 1 (xs.map cR)),(1,.rs 4 (q.map cPl)),(4,.ptr 4 0 0),(5,.ptr 5 0 0),(6,.rs 4 ((Qq q).map cPl)),(7,.ptr 7 0 0)]) (weak_seed (i:=901) (k:=7) (e:=29) (z:=1) (e2:=85) (z2:=1) (fl:=true) (fl2:=true) rfl rfl) (Qa (Qb rfl rfl) (.keep (rfl) rfl (.keep (rfl) rfl (.keep (rfl) rfl (.keep (rfl) rfl (.nil))))) (fun i h=>by cases h)))) (gK 2 rfl (Qh rfl rfl (gR 3 rfl ?_))))))
  refine Qr (α:=Nat×List (List Pl)) (fun u=>xs.length-u.1) (fun u=>[(1,.rs 4 (q.map cPl)),(4,.ptr 4 0 0),(5,.ptr 5 0 0),(6,.rs 4 ((Qq q).map cPl)),(7,.ptr 7 0 0),(17,.rs 1 (xs.map cR)),(18,iv (xs.length:Int)),(19,iv (((u.1):Nat):Int))]) (fun u=>[(4,.cells 29 1 [[.nils]] true),(5,.cells 36 1 [[iv 0]] true),(7,.cells 29 1 [[.sl 901 0 (u.2).length]] false),(901,.cells 85 1 ((u.2).map cR) true)]) (fun u=>u.1<=xs.length/\wthA q (Qq q) u.2 (xs.drop u.1)=wthA q (Qq q) [] xs/\u.2.length<=u.1*101) (0,[]) (⟨by omega,rfl,by simp⟩)
   (Qa (Qb rfl rfl) (.keep (rfl) rfl (.keep (rfl) rfl (.keep (rfl) rfl (.keep (rfl) rfl (.nil))))) (fun i h=>by cases h)) ?_
  rintro ⟨k,m⟩ ⟨hk,hinv,hml⟩
  dsimp only at hk hinv hml ⊢
  refine gT 5 rfl (Qe rfl (fun h20=>?_) (fun h20=>?_))
  ·first | replace h20:=of_decide_eq_true h20 | skip
   refine gK 5 rfl ?_
   obtain ⟨x,hxk,hxm⟩:=Qo (L:=xs) (k:=k) (by omega)
   rw [wthA_at hxk] at hinv
   refine Qp (f:=cR) (y:=x) rfl rfl rfl (by omega) hxk (gR 8 rfl (cN rfl rfl (vc89b x q ⟨hqn,by have:=hx.m x hxm; omega⟩) ?_))
   cases h25:Uh x q
   ·skip
    refine gR 7 rfl (Q1 [] rfl rfl (vc197 x (Qq q)) (.cons (Qd rfl) (.cons (Qd rfl) (.nil))) (.nil) rfl rfl rfl (gR 2 rfl (QE (F0:=[(32,.fn (.func 216) [.rp [.rs 4 (x.map cPl)],.rp [.rs 4 ((Qq q).map cPl)]]),(1,.rs 4 (q.map cPl)),(4,.ptr 4 0 0),(5,.ptr 5 0 0),(6,.rs 4 ((Qq q).map cPl)),(7,.ptr 7 0 0),(17,.rs 1 (xs.map cR)),(18,iv (xs.length:Int)),(19,iv (((k):Nat):Int))]) (H0:=[(4,.cells 29 1 [[.nils]] true),(5,.cells 36 1 [[iv 0]] true),(7,.cells 29 1 [[.sl 901 0 (m).length]] false),(901,.cells 85 1 ((m).map cR) true)]) (Qa (Qb rfl rfl) (.keep (rfl) rfl (.keep (rfl) rfl (.keep (rfl) rfl (.keep (rfl) rfl (.nil))))) (fun i h=>by cases h)) ?_)))
    cases hb:prtB x (Qq q)
    ·refine aw_rfunc 900 [(4,.cells 29 1 [[.nils]] true),(5,.cells 36 1 [[iv 0]] true),(7,.cells 29 1 [[.sl 901 0 (m).length]] false),(901,.cells 85 1 ((m).map cR) true)] [(4,.cells 29 1 [[.nils]] true),(5,.cells 36 1 [[iv 0]] true),(7,.cells 29 1 [[.sl 903 0 (m++prtL x (Qq q)).length]] false),(903,.cells 85 1 ((m++prtL x (Qq q)).map cR) true),(901,.dead)] (.inl ⟨rfl,rfl⟩) rfl (by kernel_rfl) rfl rfl rfl (.cons rfl (.cons rfl (.cons rfl (.cons rfl (.nil))))) rfl rfl rfl rfl (fun r0 hrec=>⟨r0,(by rw [hrec.state]; intro h; cases h),hrec.pending,vc216 x q (hx.m x hxm) (by omega) hfs xs k m (by omega) _ hb r0 hrec⟩) (gP 1 rfl ?_)
     first | refine Qg rfl rfl rfl (by omega) ?_ | refine QH rfl rfl rfl rfl ?_
     refine gR 2 rfl ?_
     rw [if_neg (by rw [h25]; decide),if_neg (by rw [hb]; decide)] at hinv
     have hpl:=prtL_len (Qq q) x
     exact Q8 <| ⟨(k+1,m++prtL x (Qq q)),⟨by dsimp only; omega,hinv,by dsimp only; rw [List.length_append]; omega⟩,by dsimp only; omega,(Weak.trans (F1:=[(1,.rs 4 (q.map cPl)),(4,.ptr 4 0 0),(5,.ptr 5 0 0),(6,.rs 4 ((Qq q).map cPl)),(7,.ptr 7 0 0),(17,.rs 1 (xs.map cR)),(18,iv (xs.length:Int)),(19,iv (((k+1):Nat):Int))]) (H1:=[(4,.cells 29 1 [[.nils]] true),(5,.cells 36 1 [[iv 0]] true),(7,.cells 29 1 [[.sl 903 0 (m++prtL x (Qq q)).length]] false),(903,.cells 85 1 ((m++prtL x (Qq q)).map cR) true)]) (Qa (Qb rfl rfl) (.keep (rfl) rfl (.keep (rfl) rfl (.keep (rfl) rfl (.keep (rfl) rfl (.nil))))) (fun i h=>by cases h)) (Weak.trans (F1:=[(1,.rs 4 (q.map cPl)),(4,.ptr 4 0 0),(5,.ptr 5 0 0),(6,.rs 4 ((Qq q).map cPl)),(7,.ptr 7 0 0),(17,.rs 1 (xs.map cR)),(18,iv (xs.length:Int)),(19,iv (((k+1):Nat):Int))]) (Qt (i:=903) (i':=901) (k:=7) rfl rfl (.cons rfl (.same _) (.cons rfl (.same _) (.cons rfl (.same _) (.cons rfl (.same _) (.cons rfl (.same _) (.cons rfl (.same _) (.cons rfl (.same _) (.cons rfl (.same _) (.nil))))))))) (by decide) rfl (.sl _ _)) (Qa (Qb rfl rfl) (.keep (rfl) rfl (.keep (rfl) rfl (.keep (rfl) rfl (.keep (rfl) rfl (.nil))))) (fun i h=>by cases h))))⟩
    ·refine aw_rfunc 900 [(4,.cells 29 1 [[.nils]] true),(5,.cells 36 1 [[iv 0]] true),(7,.cells 29 1 [[.sl 901 0 (m).length]] false),(901,.cells 85 1 ((m).map cR) true)] [(4,.cells 29 1 [[.nils]] true),(5,.cells 36 1 [[iv 9]] true),(7,.cells 29 1 [[.sl 903 0 (m++prtL x (Qq q)).length]] false),(903,.cells 85 1 ((m++prtL x (Qq q)).map cR) true),(901,.dead)] (.inr ⟨rfl,rfl⟩) rfl (by kernel_rfl) rfl rfl rfl (.cons rfl (.cons rfl (.cons rfl (.cons rfl (.nil))))) rfl rfl rfl rfl (fun r0 hrec=>⟨{ r0 with state:=.done,pending:=some .ret },(by intro h; cases h),rfl,vc216 x q (hx.m x hxm) (by omega) hfs xs k m (by omega) _ hb r0 hrec⟩) (gP 0 rfl ?_)
     rw [if_neg (by rw [h25]; decide),if_pos hb] at hinv
     rw [wth_2 h12 hinv.symm]
     exact Qk <| Qs rfl (Xc (.cons QI (.cons sm .nil))) .nil
   ·skip
    refine gR 6 rfl (Qi (l:=(([x]:List (List Pl))).flatMap cR) (els:=(([x]:List (List Pl))).map cR) (fl:=true) rfl (by kernel_rfl) rfl rfl (by kernel_rfl) (by kernel_rfl) (gR 0 rfl (QB (f:=cR) (xs:=m) (y:=x) (fl':=true) rfl rfl rfl rfl (rfl) rfl rfl rfl (by decide) rfl (by omega) (by omega) rfl (gR 4 rfl ?_))))
    first | refine Qg rfl rfl rfl (by omega) ?_ | refine QH rfl rfl rfl rfl ?_
    refine gR 2 rfl ?_
    rw [if_pos h25] at hinv
    exact Q8 <| ⟨(k+1,m++[x]),⟨by dsimp only; omega,hinv,by dsimp only; rw [Xz]; omega⟩,by dsimp only; omega,(Weak.trans (F1:=[(1,.rs 4 (q.map cPl)),(4,.ptr 4 0 0),(5,.ptr 5 0 0),(6,.rs 4 ((Qq q).map cPl)),(7,.ptr 7 0 0),(17,.rs 1 (xs.map cR)),(18,iv (xs.length:Int)),(19,iv (((k+1):Nat):Int))]) (H1:=[(4,.cells 29 1 [[.nils]] true),(5,.cells 36 1 [[iv 0]] true),(7,.cells 29 1 [[.sl 29 0 (m++[x]).length]] false),(29,.cells 85 1 ((m++[x]).map cR) true)]) (Qa (Qb rfl rfl) (.keep (rfl) rfl (.keep (rfl) rfl (.keep (by rw [Xz]; rfl) rfl (.keep (rfl) rfl (.nil))))) (fun i h=>by cases h)) (Weak.trans (F1:=[(1,.rs 4 (q.map cPl)),(4,.ptr 4 0 0),(5,.ptr 5 0 0),(6,.rs 4 ((Qq q).map cPl)),(7,.ptr 7 0 0),(17,.rs 1 (xs.map cR)),(18,iv (xs.length:Int)),(19,iv (((k+1):Nat):Int))]) (Qt (i:=29) (i':=901) (k:=7) rfl rfl (.cons rfl (.same _) (.cons rfl (.same _) (.cons rfl (.same _) (.cons rfl (.same _) (.cons rfl (.same _) (.cons rfl (.same _) (.cons rfl (.same _) (.cons rfl (.same _) (.nil))))))))) (by decide) rfl (.sl _ _)) (Qa (Qb rfl rfl) (.keep (rfl) rfl (.keep (rfl) rfl (.keep (rfl) rfl (.keep (rfl) rfl (.nil))))) (fun i h=>by cases h))))⟩
  ·first | replace h20:=of_decide_eq_false h20 | skip
   refine gK 5 rfl (Xi rfl rfl (gR 0 rfl (rs_gtr rfl rfl rfl (gR 1 rfl (Qe rfl (fun h43=>?_) (fun h43=>?_))))))
   ·first | replace h43:=of_decide_eq_true h43 | skip
    refine gK 6 rfl ?_
    have e:wthA q (Qq q) [] xs=some m:=by rw [← hinv,List.drop_eq_nil_of_le (by omega)]; rfl
    rw [wth_3 h12 e (by omega)]
    exact Qk <| Qs rfl (Xc (.cons QI (.cons sm .nil))) .nil
   ·first | replace h43:=of_decide_eq_false h43 | skip
    refine gK 8 rfl ?_
    have e:wthA q (Qq q) [] xs=some m:=by rw [← hinv,List.drop_eq_nil_of_le (by omega)]; rfl
    rw [wth_4 h12 e (by omega)]
    exact Qk <| Qs rfl (Xc (.cons (rc_frzA (f:=cR) (xs:=m) rfl rfl rfl) (.cons sm .nil))) .nil
def mcv136:MC:=(.seq (.reg [oN 4 (.mv (.c .nils)) [],oN 5 (.mv (.c (.int .i64 0))) [0]] false) (.seq (.seq (.reg [oM 12 0 [],oN 13 (.call 128 [(.t 12)]) [0],oM 6 13 [1,1,0,1]] false) (.seq (.reg [oM 14 6 [],oN 15 (.bin .neq (.t 14) (.c (.int .i64 0))) [0]] false) (.cond (.t 15) (.seq (.reg [oM 16 6 [],oN 4 (.mv (.c .nils)) [],oM 5 16 [0,1,0,1]] false) .ret) .skip))) (.seq (.seq (.reg [oM 17 1 [],oN 18 (.call 167 [(.t 17)]) [0],oM 7 18 [1,1,0,1]] false) (.seq (.reg [oM 19 7 [],oN 20 (.bin .neq (.t 19) (.c (.int .i64 0))) [0]] false) (.cond (.t 20) (.seq (.reg [oM 21 7 [],oN 4 (.mv (.c .nils)) [],oM 5 21 [0,1,0,1]] false) .ret) .skip))) (.seq (.seq (.reg [oM 22 0 [],oN 23 (.call 154 [(.t 22)]) [0],oN 24 (.un .not (.t 23)) [1]] false) (.cond (.t 24) (.seq (.reg [oN 4 (.mv (.c .nils)) [],oN 5 (.mv (.c (.int .i64 0))) [0,0]] false) .ret) .skip)) (.seq (.reg [oM 25 0 [],oN 26 (.call 168 [(.t 25)]) [0],oN 27 (.bslice 85 1 [.nils] 1 [(0,(.t 26))]) [1],oM 8 27 [2,1,0,1,2]] false) (.seq (.seq (.reg [oM 28 1 [],oN 29 (.len (.t 28)) [0],oN 30 (.mv (.c (.int .i64 0))) []] false) (.block 0 (.loop (.seq (.reg [oN 31 (.bin .lss (.t 30) (.t 29)) []] false) (.seq (.cond (.t 31) .skip (.exit 0)) (.seq (.block 1 (.seq (.reg [oN 32 (.ixsl 1 (.t 28) (.t 30)) [],oD 33 1 32 [0],oM 10 33 [1,0,1]] false) (.seq (.reg [oN 11 (.mv (.c (.int .i64 0))) []] false) (.seq (.reg [oM 35 8 [],oM 36 10 [],oN 37 (.call 169 [(.t 35),(.t 36)]) [0,1],oM 34 37 [2],oN 38 (.ext (.t 34) 0) [3],oN 39 (.ext (.t 34) 1) [3],oM 8 38 [4,2,0,1,2,3,4],oM 11 39 [5,6,0,1,2,3,4,5,6]] false) (.seq (.reg [oM 40 11 [],oN 41 (.bin .neq (.t 40) (.c (.int .i64 0))) [0]] false) (.cond (.t 41) (.seq (.reg [oM 42 11 [],oN 4 (.mv (.c .nils)) [],oM 5 42 [0,1,0,1]] false) .ret) .skip)))))) (.reg [oN 43 (.bin .add (.t 30) (.c (.int .i64 1))) [],oM 30 43 [0]] false))))))) (.seq (.reg [oM 44 8 [],oM 4 44 [0,0],oN 5 (.mv (.c (.int .i64 0))) [1,0,1]] false) .ret)))))))
theorem mcOkv136:okM Tryz.prog Tryz.f136 45=some mcv136:=by kernel_rfl
theorem vc136 (c:List Pl) (hc:OkC c) (s:List (List Pl)) (hs:∀ q∈s,OkC q) (hsl:s.length<=1000):FC Tryz.prog 136 [.rs 4 (c.map cPl),.rs 1 (s.map cR)] [] (.tup [.rs 1 ((mnsS c s).1.map cR),iv (mnsS c s).2]) [] true:=by
 have hcn:=hc.n
 refine Qj (nt:=45) Tryz.func136 rfl rfl mcOkv136 (nL rfl) ?_
 delta mcv136
 refine gA 9 rfl (cN rfl rfl (vc128 c (by omega)) (gR 5 rfl (Ja rfl rfl rfl (gR 1 rfl (Qe rfl (fun h15=>?_) (fun h15=>?_))))))
 ·first | replace h15:=of_decide_eq_true h15 | skip
  refine gK 7 rfl ?_
  rw [show mnsS c s=([],ckS c) from if_pos h15]
  exact Qk <| Qs rfl (Xc (.cons QI (.cons (Q3 rfl (.inr rfl)) .nil))) .nil
 ·first | replace h15:=of_decide_eq_false h15 | skip
  refine gK 5 rfl (cN rfl rfl (vc167 s (fun q hq=>Nat.le_trans (hs q hq).n.2 (by decide))) (gR 5 rfl (Ja rfl rfl rfl (gR 1 rfl (Qe rfl (fun h20=>?_) (fun h20=>?_))))))
  ·first | replace h20:=of_decide_eq_true h20 | skip
   refine gK 7 rfl ?_
   rw [show mnsS c s=([],sckS s) from by unfold mnsS; rw [if_neg h15,if_pos h20]]
   exact Qk <| Qs rfl (Xc (.cons QI (.cons (Q3 rfl (.inr rfl)) .nil))) .nil
  ·first | replace h20:=of_decide_eq_false h20 | skip
   refine gK 5 rfl (cN rfl rfl (vc154 c hc) ?_)
   cases h23:QX c
   ·skip
    refine gR 9 rfl ?_
    rw [show mnsS c s=([],0) from by unfold mnsS; rw [if_neg h15,if_neg h20,h23]; rfl]
    exact Qk <| Qs rfl (Xc (.cons QI (.cons (Q3 rfl (.inr rfl)) .nil))) .nil
   ·skip
    refine gR 7 rfl (cN rfl rfl (vc168 c hc) (gR 0 rfl (Qi (l:=(([Qq c]:List (List Pl))).flatMap cR) (els:=(([Qq c]:List (List Pl))).map cR) (fl:=true) rfl (by kernel_rfl) rfl rfl (by kernel_rfl) (by kernel_rfl) (gR 4 rfl ?_))))
    have hc48:(Qq c).length<=48:=by
     have hv:XQ [c]=true:=by unfold QX at h23; exact (Bool.and_eq_true _ _ ▸ h23).1
     have:=(valid_all hv c (by simp)).1
     have:=(leanO_sub c).1
     omega
    refine QE (F0:=[(1,.rs 1 (s.map cR)),(8,.rs 1 (([Qq c]:List (List Pl)).map cR))]) (H0:=[]) (Qa (.cs (.cons rfl (rc_frzA (f:=cR) (xs:=([Qq c]:List (List Pl))) rfl rfl rfl) (.nil))) (.nil) (fun i h=>by cases h)) (gK 2 rfl (Qh rfl rfl (gR 3 rfl ?_)))
    refine Qr (α:=Nat×List (List Pl)) (fun u=>s.length-u.1) (fun u=>[(8,.rs 1 ((u.2).map cR)),(28,.rs 1 (s.map cR)),(29,iv (s.length:Int)),(30,iv (((u.1):Nat):Int))]) (fun u=>[]) (fun u=>u.1<=s.length/\mnsL u.2 (s.drop u.1)=mnsL [Qq c] s/\OkPs u.2) (0,[Qq c]) (⟨by omega,rfl,⟨nL rfl,fun x hx=>by rw [List.mem_singleton.1 hx]; exact hc48⟩⟩)
     (Qa (Qb rfl rfl) (.nil) (fun i h=>by cases h)) ?_
    rintro ⟨k,ps⟩ ⟨hk,hinv,hps⟩
    dsimp only at hk hinv hps ⊢
    refine gT 5 rfl (Qe rfl (fun h31=>?_) (fun h31=>?_))
    ·first | replace h31:=of_decide_eq_true h31 | skip
     refine gK 5 rfl ?_
     obtain ⟨q,hqk,hqm⟩:=Qo (L:=s) (k:=k) (by omega)
     rw [mnsL_at hqk] at hinv
     refine Qp (f:=cR) (y:=q) rfl rfl rfl (by omega) hqk (gR 11 rfl (Q1 [] rfl rfl (vc169 ps hps q (hs q hqm)) (.cons (Qd rfl) (.cons (Qd rfl) (.nil))) (.nil) rfl rfl rfl (gR 9 rfl (Ja rfl rfl rfl (gR 1 rfl (Qe rfl (fun h41=>?_) (fun h41=>?_)))))))
     ·first | replace h41:=of_decide_eq_true h41 | skip
      refine gK 7 rfl ?_
      rw [show mnsS c s=mnsL [Qq c] s from by unfold mnsS; rw [if_neg h15,if_neg h20,if_pos h23],← hinv,if_pos h41]
      exact Qk <| Qs rfl (Xc (.cons QI (.cons (Q3 rfl (.inr rfl)) .nil))) .nil
     ·first | replace h41:=of_decide_eq_false h41 | skip
      refine gK 2 rfl ?_
      first | refine Qg rfl rfl rfl (by omega) ?_ | refine QH rfl rfl rfl rfl ?_
      refine gR 2 rfl ?_
      rw [if_neg (fun h=>h41 h)] at hinv
      exact Q8 <| ⟨(k+1,(wthS ps q).1),⟨by dsimp only; omega,hinv,wth_ok hps⟩,by dsimp only; omega,Qa (Qb rfl rfl) (.nil) (fun i h=>by cases h)⟩
    ·first | replace h31:=of_decide_eq_false h31 | skip
     refine gK 8 rfl ?_
     rw [show mnsS c s=mnsL [Qq c] s from by unfold mnsS; rw [if_neg h15,if_neg h20,if_pos h23],← hinv,List.drop_eq_nil_of_le (by omega)]
     exact Qk <| Qs rfl (Xc (.cons sm (.cons (Q3 rfl (.inr rfl)) .nil))) .nil
def mcv90:MC:=(.seq (.reg [oN 4 (.mv (.c (.bool false))) [],oN 5 (.mv (.c (.int .i64 0))) [0]] false) (.seq (.reg [oM 9 1 [],oM 10 0 [],oN 11 (.call 136 [(.t 9),(.t 10)]) [0,1],oM 8 11 [2],oN 12 (.ext (.t 8) 0) [3],oN 13 (.ext (.t 8) 1) [3],oM 6 12 [4,2,0,1,2,3,4],oM 7 13 [5,6,0,1,2,3,4,5,6]] false) (.seq (.reg [oM 14 7 [],oN 15 (.bin .eql (.t 14) (.c (.int .i64 0))) [0],oM 16 15 [1],pM 17 6 16 true [2],oG 18 (.len (.t 17)) 16 true [3,2],oG 19 (.bin .eql (.t 18) (.c (.int .i64 0))) 16 true [4,2],oN 20 (.pick (.t 16) (.t 19) (.c (.bool false))) [2,5],oM 21 7 [],oM 4 20 [6,2,0,1,2,3,4,5,6],oM 5 21 [7,8,0,1,2,3,4,5,6,7,8]] false) .ret)))
theorem mcOkv90:okM Tryz.prog Tryz.f90 22=some mcv90:=by kernel_rfl
theorem vc90 (s:List (List Pl)) (c:List Pl) (hc:OkC c) (hs:∀ q∈s,OkC q) (hsl:s.length<=1000):FC Tryz.prog 90 [.rs 1 (s.map cR),.rs 4 (c.map cPl)] [] (.tup [.bool (covS s c).1,iv (covS s c).2]) [] false:=by
 refine Qj (nt:=22) Tryz.func90 rfl rfl mcOkv90 (nL rfl) ?_
 delta mcv90
 refine gA 9 rfl (Q1 [] rfl rfl (vc136 c hc s hs hsl) (.cons (Qd rfl) (.cons (Qd rfl) (.nil))) (.nil) rfl rfl rfl (gR 9 rfl (Q9 rfl rfl rfl rfl (fun h15=>?_) (fun h15=>?_))))
 ·skip
  refine gR 2 rfl (Qh rfl rfl (gR 0 rfl (Q9 rfl rfl rfl rfl (fun h19=>?_) (fun h19=>?_))))
  ·skip
   refine gR 6 rfl ?_
   rw [show (covS s c).2=(mnsS c s).2 from rfl,show (covS s c).1=true from by unfold covS; rw [decide_eq_true (show (mnsS c s).2=0 by omega)]; exact decide_eq_true (by omega)]
   exact Qk <| Qc rfl rfl rfl (.inr rfl)
  ·skip
   refine gR 6 rfl ?_
   rw [show (covS s c).2=(mnsS c s).2 from rfl,show (covS s c).1=false from by unfold covS; rw [decide_eq_true (show (mnsS c s).2=0 by omega)]; exact decide_eq_false (by omega)]
   exact Qk <| Qc rfl rfl rfl (.inr rfl)
 ·skip
  refine gR 10 rfl ?_
  rw [show (covS s c).2=(mnsS c s).2 from rfl,show (covS s c).1=false from by unfold covS; rw [decide_eq_false (show ¬ (mnsS c s).2=0 by omega)]; rfl]
  exact Qk <| Qc rfl rfl rfl (.inr rfl)
end Go.Proofs.YthfhaoogcpfboaaGreat
namespace Go.Proofs.YthfhaoogcpfboaaGreat
open Go.RowKit
set_option maxRecDepth 100000
set_option linter.unusedVariables false
open Go.Shelf Go.Lib
def renGs:Go.Shelf.Ren:={ f:=fun _=>129,t:=fun n=>if n=22 then 29 else if n=25 then 85 else n,g:=fun n=>n }
theorem laysGs:Lays8.n4 Tryz.prog renGs:=by
 constructor
 case f4=>exact ⟨Tryz.f129.name,by kernel_rfl,by kernel_rfl⟩
 all_goals first | kernel_rfl | (intro _; kernel_rfl)
theorem ty85:∃ i z,Tryz.prog.info? 85=some i/\i.zero=some z/\i.size=1/\i.bytes=24/\z.cells.size=1:=by
 have h:(match Tryz.prog.info? 85 with | some i=>(match i.zero with | some z=>decide (i.size=1/\i.bytes=24/\z.cells.size=1) | none=>false) | none=>false)=true:=by kernel_rfl
 split at h
 ·rename_i i hi
  split at h
  ·rename_i z hz
   have h:=of_decide_eq_true h
   exact ⟨i,z,hi,hz,h.1,h.2.1,h.2.2⟩
  ·cases h
 ·cases h
theorem vc129 (n:Nat) (hn:1<=n/\n<=1000):FC Tryz.prog 129 [.nils,iv (n:Int)] [] (.sl 1005 0 0) [(1005,.cells 85 1 [] true)] false:=fun w S ρ cargs hH hv=>by
 obtain ⟨i0,z0,hi,hz,h1,h2,h3⟩:=ty85
 have e:cargs = #[.slice none 0 0,.int .i64 (n:Int)]:=by
  obtain ⟨L⟩:=cargs
  have h1:=hv.1
  have hv0:=hv.2 0 _ rfl
  have hv1:=hv.2 1 _ rfl
  match L,h1,hv0,hv1 with
  | [x,y],_,hv0,hv1 =>
   have e0:x = .slice none 0 0:=VR.nils_inv hv0
   have e1:y = .int .i64 (n:Int):=VR.int_inv hv1
   rw [e0,e1]
 rw [e]
 have hb:(0+n)*i0.bytes<=140737488355328:=by rw [h2]; omega
 have hg:=Any8.slices_Grow_grow laysGs i0 z0 hi hz (by omega) none 0 0 n [] w (Nat.le_refl _) (by omega) hb (by omega) (by simp) (fun _=>rfl) (fun a h=>by cases h)
 refine hg.mono fun en w' ⟨he,hw⟩=>?_
 have hge:=grownCap_ge w (0+n) 0 85
 have hle:=grownCap_le_maxLen w (0+n) 0 85 (by unfold maxLen; omega)
 replace he:en = .returned (.slice (some ⟨w.heap.size,0,none⟩) 0 (grownCap w (0+n) 0 85)):=he
 replace hw:w'=w.drew.alloc (.cells (([]:List Value).toArray++Builtin.zeroCells z0.cells (0+n-0)++Builtin.zeroCells z0.cells (grownCap w (0+n) 0 85-(0+n))) 85):=hw
 generalize grownCap w (0+n) 0 85=G at he hw hge hle
 have hsz:(([]:List Value).toArray++Builtin.zeroCells z0.cells (0+n-0)++Builtin.zeroCells z0.cells (G-(0+n))).size=G*1:=by
  simp only [Array.size_append,size_zeroCells,h3,List.size_toArray,List.length_nil]; omega
 generalize (([]:List Value).toArray++Builtin.zeroCells z0.cells (0+n-0)++Builtin.zeroCells z0.cells (G-(0+n)))=C at hw hsz
 subst hw
 have hnew:(w.drew.alloc (.cells C 85)).heap[w.heap.size]?=some (.cells C 85 (0,0)):=heap_alloc_new w.drew _
 have hsize:(w.drew.alloc (.cells C 85)).heap.size=w.heap.size+1:=by show (w.heap.push _).size=_; simp
 have hget:∀ i,i≠1005->get ([(1005,.cells 85 1 [] true)]:Hp) i=none:=fun i hi=>by simp only [get]; rw [if_neg (Ne.symm hi)]
 refine ⟨_,fun _=>False,fun i=>if i=1005 then some (some w.heap.size,1,G) else none,he,.sl 1005 0 0 w.heap.size 1 G G (if_pos rfl) (by omega) (Nat.zero_le _),⟨fun b hb=>hb.elim,fun i hi=>?_,⟨fun i o _ ho=>?_,fun i j oi oj b z z' c c' _ _ hne hi hj=>?_⟩⟩,⟨rfl,rfl,rfl,by rw [hsize]; omega,fun k hk _=>Below.heap_alloc w.drew _ k hk⟩,fun b hb=>hb.elim,fun b hb=>?_,fun i hi=>absurd rfl hi,fun i hi=>absurd rfl hi⟩
 ·by_cases h:i=1005
  ·subst h; simp [get] at hi
  ·simp [h]
 ·by_cases h:i=1005
  ·subst h
   simp [get] at ho
   subst ho
   exact ⟨some w.heap.size,1,G,if_pos rfl,rfl,fun h=>h,hle,C,hnew,hsz,Nat.zero_le _,fun j el h=>by simp at h,fun j el o v h=>by simp at h⟩
  ·rw [hget i h] at ho; cases ho
 ·have h1:i=1005:=Decidable.byContradiction fun h=>by rw [hget i h] at hi; cases hi
  have h2:j=1005:=Decidable.byContradiction fun h=>by rw [hget j h] at hj; cases hj
  exact absurd (h1.trans h2.symm) hne
 ·obtain ⟨i,ob,z,cap,_,h1,_,h2⟩:=hb
  by_cases h:i=1005
  ·subst h; simp at h2; exact .inr (by omega)
  ·rw [hget i h] at h1; cases h1
theorem vc129z:FC Tryz.prog 129 [.nils,iv ((0:Nat):Int)] [] .nils [] false:=fun w S ρ cargs hH hv=>by
 have e:cargs = #[.slice none 0 0,.int .i64 ((0:Nat):Int)]:=by
  obtain ⟨L⟩:=cargs
  have h1:=hv.1
  have hv0:=hv.2 0 _ rfl
  have hv1:=hv.2 1 _ rfl
  match L,h1,hv0,hv1 with
  | [x,y],_,hv0,hv1 =>
   have e0:x = .slice none 0 0:=VR.nils_inv hv0
   have e1:y = .int .i64 ((0:Nat):Int):=VR.int_inv hv1
   rw [e0,e1]
 rw [e]
 refine (Any8.slices_Grow_room laysGs none 0 0 0 w (Nat.le_refl _) (by omega) (by omega) (Nat.le_refl _)).mono fun en w' ⟨he,hw⟩=>?_
 subst hw
 exact ⟨_,fun _=>False,fun _=>none,he,.cl .nils,⟨fun b hb=>hb.elim,fun i hi=>rfl,⟨fun i o _ ho=>(by cases ho),fun i j oi oj b z z' c c' _ _ _ hi=>(by cases hi)⟩⟩,Keep.refl _ _,fun b hb=>hb.elim,fun b ⟨i,ob,z,cap,_,h1,_⟩=>(by cases h1),fun i hi=>absurd rfl hi,fun i hi=>absurd rfl hi⟩
abbrev cRR (c:List (List Pl)):List AV:=[.rs 1 (c.map cR)]
theorem flat_le' {ls:List (List (List Pl))} (k:Nat):((ls.take k).flatten).length<=ls.flatten.length:=by
 have:ls.flatten=(ls.take k).flatten++(ls.drop k).flatten:=by rw [← List.flatten_append,List.take_append_drop]
 rw [this,List.length_append]; omega
theorem flat_succ' {ls:List (List (List Pl))} {k:Nat} {c:List (List Pl)} (h:ls[k]?=some c):(ls.take (k+1)).flatten=(ls.take k).flatten++c:=by rw [Qv h]; simp
theorem fl_t {α:Type} {p:α->Bool} {xs:List α} {k:Nat} {x:α} (h:xs[k]?=some x) (hp:p x=true):(xs.take (k+1)).filter p=(xs.take k).filter p++[x]:=by rw [Qv h,List.filter_append]; simp [hp]
theorem fl_f {α:Type} {p:α->Bool} {xs:List α} {k:Nat} {x:α} (h:xs[k]?=some x) (hp:p x=false):(xs.take (k+1)).filter p=(xs.take k).filter p:=by rw [Qv h,List.filter_append]; simp [hp]
def nearB (c x:List Pl):Bool := !Uh x c
theorem vc130f (c:List Pl) (h:1<=c.length/\c.length<=1000):FC Tryz.prog 130 [.rs 4 (c.map cPl)] [] (.rs 4 (c.map cPl)) [] false :=
 fc_frozen (vc130' c h) (Xr rfl rfl rfl (fun _=>rfl))
def newS (n:Nat):Pc:=⟨List.replicate n false,List.replicate n false,[]⟩
def sureS (cs:List (List Pl)) (c:List Pl):Bool×Int:=covS (cs.filter (nearB c)) c
def su1 (cs:List (List Pl)) (c:List Pl):Bool:=(sureS cs c).1
def touS (cs:List (List Pl)) (c:List Pl):Bool := !sapartS c cs
def appE (cs:List (List Pl)):List (List Pl)->Int
 | []=>0
 | c::t=>if (sureS cs c).2≠0 then (sureS cs c).2 else appE cs t
theorem appE_at {cs l:List (List Pl)} {k:Nat} {c:List Pl} (h:l[k]?=some c):appE cs (l.drop k)=if (sureS cs c).2≠0 then (sureS cs c).2 else appE cs (l.drop (k+1)):=by rw [Jo h]; rfl
def appS (p:Pa) (cs:List (List Pl)):Pc×Int:=if appE cs p.cells≠0 then (⟨[],[],[]⟩,appE cs p.cells) else (⟨p.cells.map (su1 cs),p.cells.map (touS cs),cs⟩,0)
def upd (f:List Pl->Bool) (l:List (List Pl)) (k:Nat):List Bool:=(l.take k).map f++List.replicate (l.length-k) false
theorem upd_len {f:List Pl->Bool} {l:List (List Pl)} {k:Nat} (h:k<=l.length):(upd f l k).length=l.length:=by simp [upd]; omega
theorem upd_at {f:List Pl->Bool} {l:List (List Pl)} {k:Nat} (h:k<l.length):(upd f l k)[k]?=some false:=by
 unfold upd
 rw [List.getElem?_append_right (by simp; omega),List.getElem?_replicate,if_pos (by simp; omega)]
theorem upd_set {f:List Pl->Bool} {l:List (List Pl)} {k:Nat} {c:List Pl} (h:l[k]?=some c):(upd f l k).set k (f c)=upd f l (k+1):=by
 have hk:=lt_of_at h
 obtain ⟨m,hm⟩:∃ m,l.length-k=m+1:=⟨l.length-k-1,by omega⟩
 unfold upd
 rw [hm,show l.length-(k+1)=m by omega,Qv h,List.map_append,List.replicate_succ]
 have e:(List.map f (List.take k l)).length=k:=by simp; omega
 rw [List.set_append,if_neg (by omega),e,Nat.sub_self]
 simp
theorem upd_0 {f:List Pl->Bool} {l:List (List Pl)}:upd f l 0=List.replicate l.length false:=by simp [upd]
theorem upd_all {f:List Pl->Bool} {l:List (List Pl)} {k:Nat} (h:l.length<=k):upd f l k=l.map f:=by
 unfold upd; rw [List.take_of_length_le h,show l.length-k=0 by omega]; simp
theorem ck_cut {c:List Pl} (h:CutOK c):ckS c=0:=by
 unfold ckS
 rw [if_neg (by have:=h.len; omega),if_neg]
 intro hc
 obtain ⟨p,hp,hb⟩:=List.any_eq_true.1 hc
 unfold badP at hb
 rw [h.val p hp] at hb; cases hb
theorem ckAll_cut:∀ {cs:List (List Pl)},(∀ c∈cs,CutOK c)->ckAll cs=0
 | [],_=>rfl
 | c::l,h=>by
  unfold ckAll
  rw [if_neg (fun q=>q (ck_cut (h c List.mem_cons_self)))]
  exact ckAll_cut fun x hx=>h x (List.mem_cons_of_mem _ hx)
theorem fit_app {p:Pa} (hp:GoodP p) {x:Pc} (h1:x.sure.length=p.cells.length) (h2:x.touched.length=p.cells.length) (h3:x.cuts.length<=3) (h4:∀ c∈x.cuts,CutOK c):Jv p x=0:=by
 unfold Jv
 rw [if_neg (fun q=>q hp.check),if_neg]
 rintro (h | h | h | h)
 ·exact h h1
 ·exact h h2
 ·omega
 ·exact h (ckAll_cut h4)
theorem GoodP.ok {p:Pa} (h:GoodP p):PaOK p:=⟨by have:=h.n; omega,by have:=h.n; have:=h.want; omega,fun c hc=>by have:=(h.cells.ok c hc).len; omega⟩
theorem good_ck {p:Pa} (h:GoodP p) {c:List Pl} (hc:c∈p.cells):ckS c=0:=ck_cut ⟨by have:=(h.cells.ok c hc).len; omega,(h.cells.ok c hc).val⟩
theorem sure_e {p:Pa} (hp:GoodP p) {cs:List (List Pl)} (h:∀ c∈cs,CutOK c) (hn:cs.length<=3) {c:List Pl} (hc:c∈p.cells):(sureS cs c).2=0\/(sureS cs c).2=9:=by
 refine mns_e (good_ck hp hc) ?_
 unfold sckS
 rw [if_neg (by have:=List.length_filter_le (nearB c) cs; omega)]
 exact ckAll_cut fun x hx=>h x (List.mem_filter.1 hx).1
theorem appE_e {p:Pa} (hp:GoodP p) {cs:List (List Pl)} (h:∀ c∈cs,CutOK c) (hn:cs.length<=3):∀ {l:List (List Pl)},(∀ c∈l,c∈p.cells)->appE cs l=0\/appE cs l=9
 | [],_=>.inl rfl
 | c::t,hl=>by
  unfold appE
  split
  ·exact sure_e hp h hn (hl c List.mem_cons_self)
  ·exact appE_e hp h hn fun x hx=>hl x (List.mem_cons_of_mem _ hx)
def mcv83:MC:=(.seq (.reg [oN 2 (.mv (.c .nils)) []] false) (.seq (.reg [oN 3 (.mv (.c (.int .i64 0))) []] false) (.seq (.seq (.reg [oM 9 0 [],oN 10 (.len (.t 9)) [0],oN 11 (.mv (.c (.int .i64 0))) []] false) (.block 0 (.loop (.seq (.reg [oN 12 (.bin .lss (.t 11) (.t 10)) []] false) (.seq (.cond (.t 12) .skip (.exit 0)) (.seq (.block 1 (.seq (.reg [oN 13 (.ixsl 1 (.t 9) (.t 11)) [],oD 14 1 13 [0],oM 5 14 [1,0,1]] false) (.seq (.reg [oM 15 3 [],oM 16 5 [],oN 17 (.len (.t 16)) [1],oN 18 (.bin .add (.t 15) (.t 17)) [0,2],oM 3 18 [3,0,1,2,3]] false) (.seq (.reg [oM 19 3 [],oN 20 (.bin .lss (.t 19) (.c (.int .i64 0))) [0]] false) (.cond (.t 20) (.reg [oN 21 (.mkif 9 (.c (.str (Qm [108,101,110,32,111,117,116,32,111,102,32,114,97,110,103,101])))) [],⟨none,.bot,none,[0]⟩] false) .skip))))) (.reg [oN 22 (.bin .add (.t 11) (.c (.int .i64 1))) [],oM 11 22 [0]] false))))))) (.seq (.reg [oM 23 3 [],oN 24 (.call 129 [(.c .nils),(.t 23)]) [0],oM 6 24 [1,1,0,1]] false) (.seq (.seq (.reg [oM 25 0 [],oN 26 (.len (.t 25)) [0],oN 27 (.mv (.c (.int .i64 0))) []] false) (.block 2 (.loop (.seq (.reg [oN 28 (.bin .lss (.t 27) (.t 26)) []] false) (.seq (.cond (.t 28) .skip (.exit 2)) (.seq (.block 3 (.seq (.reg [oN 29 (.ixsl 1 (.t 25) (.t 27)) [],oD 30 1 29 [0],oM 8 30 [1,0,1]] false) (.reg [oM 31 6 [],oM 32 8 [],oN 33 (.app 85 1 24 [.nils] (.t 31) (.t 32)) [0,1],oM 6 33 [2,2,0,1,2]] false))) (.reg [oN 34 (.bin .add (.t 27) (.c (.int .i64 1))) [],oM 27 34 [0]] false))))))) (.seq (.reg [oM 35 6 [],oM 2 35 [0,0]] false) .ret))))))
theorem mcOkv83:okM Tryz.prog Tryz.f83 36=some mcv83:=by kernel_rfl
theorem vc83 (ls:List (List (List Pl))) (hn:ls.flatten.length<=1000) (hl:ls.length<=100):FC Tryz.prog 83 [.sl 1001 0 ls.length] [(1001,.cells 29 1 (ls.map cRR) true)] (.rs 1 (ls.flatten.map cR)) [(1001,.cells 29 1 (ls.map cRR) true)] true:=by
 refine Qj (nt:=36) Tryz.func83 rfl rfl mcOkv83 (nL rfl) ?_
 delta mcv83
 refine gA 12 rfl (Xi rfl rfl (gR 3 rfl ?_))
 refine Qr (α:=Nat) (fun k=>ls.length-k) (fun k=>[(0,.sl 1001 0 ls.length),(9,.sl 1001 0 ls.length),(10,iv (ls.length:Int)),(11,iv (((k):Nat):Int)),(3,iv ((((ls.take (k)).flatten).length:Nat):Int))]) (fun k=>[(1001,.cells 29 1 (ls.map cRR) true)]) (fun k=>k<=ls.length) 0 (by omega)
  (Qa (Qb rfl rfl) (.keep (rfl) rfl (.nil)) ((fun i hi=>by simp [Qf] at hi ⊢; omega))) ?_
 intro k hk
 refine gT 5 rfl (Qe rfl (fun h12=>?_) (fun h12=>?_))
 ·replace h12:=of_decide_eq_true h12
  refine gK 5 rfl ?_
  obtain ⟨c,hck,hcm⟩:=Qo (L:=ls) (k:=k) (by omega)
  have hfl:=flat_le' (ls:=ls) (k+1)
  have hfs:((ls.take (k+1)).flatten).length=((ls.take k).flatten).length+c.length:=by rw [flat_succ' hck,List.length_append]
  refine Xf rfl rfl rfl rfl (by omega) (by omega) (gR 0 rfl (rs_ld_g (f:=cRR) (xs:=ls) (y:=c) rfl rfl rfl hck rfl (gR 6 rfl (Qh rfl rfl (gR 0 rfl (QH (c:=((((ls.take (k+1)).flatten).length:Nat):Int)) rfl rfl rfl (by rw [hfs]; exact addNW2 (by omega)) (gR 5 rfl (Xd rfl rfl rfl rfl (by omega) (gR 4 rfl (Qg rfl rfl rfl (by omega) (gR 2 rfl ?_)))))))))))
  exact Q8 <| ⟨k+1,by omega,by omega,Qa (Qb rfl rfl) (.keep (rfl) rfl (.nil)) ((fun i hi=>by simp [Qf] at hi ⊢; omega))⟩
 ·replace h12:=of_decide_eq_false h12
  refine gK 2 rfl ?_
  obtain rfl:k=ls.length:=by omega
  have hfa:ls.take ls.length=ls:=List.take_of_length_le (Nat.le_refl _)
  refine gI 2 rfl ?_
  rcases Nat.eq_zero_or_pos ls.flatten.length with hz | hz
  ·rw [hfa,hz]
   refine cN rfl rfl (vc129z) (gR 6 rfl (Xi rfl rfl (gR 3 rfl ?_)))
   refine Qr (α:=Nat) (fun k=>ls.length-k) (fun k=>[(25,.sl 1001 0 ls.length),(26,iv (ls.length:Int)),(27,iv (((k):Nat):Int)),(6,.sl 1005 0 ((ls.take (k)).flatten).length)]) (fun k=>[(1001,.cells 29 1 (ls.map cRR) true),(1005,.cells 85 1 (((ls.take (k)).flatten).map cR) true)]) (fun k=>k<=ls.length) 0 (by omega)
    (Qa (.cs (.cs (.cs (.cons rfl (J4 rfl rfl) (.nil))))) (.keep (rfl) rfl (.virt rfl (.nil))) ((fun i hi=>by simp [Qf] at hi ⊢; omega))) ?_
   intro k hk
   refine gT 5 rfl (Qe rfl (fun h28=>?_) (fun h28=>?_))
   ·replace h28:=of_decide_eq_true h28
    refine gK 5 rfl ?_
    obtain ⟨c,hck,hcm⟩:=Qo (L:=ls) (k:=k) (by omega)
    have hfl:=flat_le' (ls:=ls) (k+1)
    have hfs:((ls.take (k+1)).flatten).length=((ls.take k).flatten).length+c.length:=by rw [flat_succ' hck,List.length_append]
    refine Xf rfl rfl rfl rfl (by omega) (by omega) (gR 0 rfl (rs_ld_g (f:=cRR) (xs:=ls) (y:=c) rfl rfl rfl hck rfl (gR 5 rfl (rs_app_mm (f:=cR) (xs:=(ls.take k).flatten) (ys:=c) (m:=c.length) (rd:=[]) rfl rfl rfl rfl rfl rfl rfl (by simp) (fun _=>rfl) rfl rfl (by omega) (by omega) (fun _=>rfl) (gR 3 rfl (Qg rfl rfl rfl (by omega) (gR 2 rfl ?_)))))))
    exact Q8 <| ⟨k+1,by omega,by omega,by rw [hfs,flat_succ' hck]; exact Q6 (i:=33) (i':=1005) (F1:=[(25,.sl 1001 0 ls.length),(26,iv (ls.length:Int)),(27,iv (((k+1):Nat):Int)),(6,.sl 33 0 (((ls.take k).flatten).length+c.length))]) (H1:=[(1001,.cells 29 1 (ls.map cRR) true),(33,.cells 85 1 (((ls.take k).flatten++c).map cR) true)]) (Qb rfl rfl) (.keep (rfl) rfl (.keep (rfl) rfl (.nil))) ((fun i hi=>by simp [Qf] at hi ⊢; omega)) rfl rfl (.cons rfl (.same _) (.cons rfl (.same _) (.cons rfl (.same _) (.cons rfl (.sl _ _) (.nil))))) (Qb rfl rfl) (.keep (rfl) rfl (.keep (rfl) rfl (.nil))) ((fun i hi=>by simp [Qf] at hi ⊢; omega))⟩
   ·replace h28:=of_decide_eq_false h28
    refine gK 7 rfl ?_
    obtain rfl:k=ls.length:=by omega
    rw [List.take_of_length_le (Nat.le_refl _)]
    exact Qk <| ret_own rfl (rc_frzA (f:=cR) (xs:=ls.flatten) rfl rfl rfl) (.keep rfl rfl .nil) (.cons rfl rfl rfl .nil)
  ·rw [hfa]
   refine cN rfl rfl (vc129 ls.flatten.length ⟨hz,hn⟩) (gR 6 rfl (Xi rfl rfl (gR 3 rfl ?_)))
   refine Qr (α:=Nat) (fun k=>ls.length-k) (fun k=>[(25,.sl 1001 0 ls.length),(26,iv (ls.length:Int)),(27,iv (((k):Nat):Int)),(6,.sl 1005 0 ((ls.take (k)).flatten).length)]) (fun k=>[(1001,.cells 29 1 (ls.map cRR) true),(1005,.cells 85 1 (((ls.take (k)).flatten).map cR) true)]) (fun k=>k<=ls.length) 0 (by omega)
    (Qa (Qb rfl rfl) (.keep (rfl) rfl (.keep (rfl) rfl (.nil))) ((fun i hi=>by simp [Qf] at hi ⊢; omega))) ?_
   intro k hk
   refine gT 5 rfl (Qe rfl (fun h28=>?_) (fun h28=>?_))
   ·replace h28:=of_decide_eq_true h28
    refine gK 5 rfl ?_
    obtain ⟨c,hck,hcm⟩:=Qo (L:=ls) (k:=k) (by omega)
    have hfl:=flat_le' (ls:=ls) (k+1)
    have hfs:((ls.take (k+1)).flatten).length=((ls.take k).flatten).length+c.length:=by rw [flat_succ' hck,List.length_append]
    refine Xf rfl rfl rfl rfl (by omega) (by omega) (gR 0 rfl (rs_ld_g (f:=cRR) (xs:=ls) (y:=c) rfl rfl rfl hck rfl (gR 5 rfl (rs_app_mm (f:=cR) (xs:=(ls.take k).flatten) (ys:=c) (m:=c.length) (rd:=[]) rfl rfl rfl rfl rfl rfl rfl (by simp) (fun _=>rfl) rfl rfl (by omega) (by omega) (fun _=>rfl) (gR 3 rfl (Qg rfl rfl rfl (by omega) (gR 2 rfl ?_)))))))
    exact Q8 <| ⟨k+1,by omega,by omega,by rw [hfs,flat_succ' hck]; exact Q6 (i:=33) (i':=1005) (F1:=[(25,.sl 1001 0 ls.length),(26,iv (ls.length:Int)),(27,iv (((k+1):Nat):Int)),(6,.sl 33 0 (((ls.take k).flatten).length+c.length))]) (H1:=[(1001,.cells 29 1 (ls.map cRR) true),(33,.cells 85 1 (((ls.take k).flatten++c).map cR) true)]) (Qb rfl rfl) (.keep (rfl) rfl (.keep (rfl) rfl (.nil))) ((fun i hi=>by simp [Qf] at hi ⊢; omega)) rfl rfl (.cons rfl (.same _) (.cons rfl (.same _) (.cons rfl (.same _) (.cons rfl (.sl _ _) (.nil))))) (Qb rfl rfl) (.keep (rfl) rfl (.keep (rfl) rfl (.nil))) ((fun i hi=>by simp [Qf] at hi ⊢; omega))⟩
   ·replace h28:=of_decide_eq_false h28
    refine gK 7 rfl ?_
    obtain rfl:k=ls.length:=by omega
    rw [List.take_of_length_le (Nat.le_refl _)]
    exact Qk <| ret_own rfl (rc_frzA (f:=cR) (xs:=ls.flatten) rfl rfl rfl) (.keep rfl rfl .nil) (.cons rfl rfl rfl .nil)
def mcv84:MC:=(.seq (.reg [oN 2 (.mv (.c .nils)) []] false) (.seq (.seq (.reg [oM 3 0 [],oN 4 (.isnil true false (.t 3)) [0]] false) (.cond (.t 4) (.seq (.reg [oN 2 (.mv (.c .nils)) []] false) .ret) .skip)) (.seq (.reg [oN 5 (.bslice 4 1 [(.bool false)] 0 []) [],oM 6 0 [],oN 7 (.app 4 1 1 [(.bool false)] (.t 5) (.t 6)) [0,1],oM 2 7 [2,2,0,1,2]] false) .ret)))
theorem mcOkv84:okM Tryz.prog Tryz.f84 8=some mcv84:=by kernel_rfl
theorem vc84 (b0:Bool) (bs:List Bool) (hc:bs.length<=1000):FC Tryz.prog 84 [.rs 1 ((b0::bs).map cB)] [] (.sl 7 0 (b0::bs).length) [(7,.cells 4 1 ((b0::bs).map cB) true)] false:=by
 refine Qj (nt:=8) Tryz.func84 rfl rfl mcOkv84 (nL rfl) ?_
 delta mcv84
 refine gA 8 rfl (rs_nil_f rfl rfl (.inl ⟨1,cB b0,bs.map cB,rfl⟩) (gR 5 rfl (Qi (l:=[]) (els:=[]) (fl:=true) rfl (by kernel_rfl) rfl rfl rfl rfl (gR 1 rfl (JZ (f:=cB) (ys:=(b0::bs)) (n:=(b0::bs).length) (rd:=[]) rfl rfl rfl rfl rfl rfl rfl (by simp) (fun _=>rfl) rfl (by simp; omega) (by simp; omega) (fun _=>rfl) (gR 3 rfl ?_))))))
 exact Qk <| Qs rfl (Q3 rfl (.inr rfl)) (.keep rfl rfl (noROE_map (fun _=>rfl) _) .nil)
theorem vc84a (bs:List Bool) (n:Nat) (hn:bs.length=n) (h:1<=n/\n<=1000):FC Tryz.prog 84 [.rs 1 (bs.map cB)] [] (.sl 1005 0 n) [(1005,.cells 4 1 (bs.map cB) true)] false:=by
 subst hn
 match bs,h with
 | c0::cs,h=>exact fc_ren (swp 7 1005) (swp_swp 7 1005) (vc84 c0 cs (by simp at h; omega)) (.cons (.closed rfl) .nil) .nil (.sl rfl) (.cons rfl .flat .nil)
theorem vc84b (bs:List Bool) (n:Nat) (hn:bs.length=n) (h:1<=n/\n<=1000):FC Tryz.prog 84 [.rs 1 (bs.map cB)] [] (.sl 1006 0 n) [(1006,.cells 4 1 (bs.map cB) true)] false:=by
 subst hn
 match bs,h with
 | c0::cs,h=>exact fc_ren (swp 7 1006) (swp_swp 7 1006) (vc84 c0 cs (by simp at h; omega)) (.cons (.closed rfl) .nil) .nil (.sl rfl) (.cons rfl .flat .nil)
theorem vc83_ (i:Nat) (hi:i≠1001) (ls:List (List (List Pl))) (hn:ls.flatten.length<=1000) (hl:ls.length<=100):FC Tryz.prog 83 [.sl i 0 ls.length] [(i,.cells 29 1 (ls.map cRR) true)] (.rs 1 (ls.flatten.map cR)) [(i,.cells 29 1 (ls.map cRR) true)] true :=
 fc_ren (swp 1001 i) (swp_swp 1001 i) (vc83 ls hn hl) (.cons (.sl (by simp [swp])) .nil) (.cons (by simp [swp]) .flat .nil) (.closed rfl) (.cons (by simp [swp]) .flat .nil)
def mcv85:MC:=(.seq (.reg [oN 2 (.mv (.c .nils)) []] false) (.seq (.reg [oN 3 (.mv (.c .nils)) []] false) (.seq (.seq (.reg [oM 6 0 [],oN 7 (.len (.t 6)) [0],oN 8 (.mv (.c (.int .i64 0))) []] false) (.block 0 (.loop (.seq (.reg [oN 9 (.bin .lss (.t 8) (.t 7)) []] false) (.seq (.cond (.t 9) .skip (.exit 0)) (.seq (.block 1 (.seq (.reg [oN 10 (.ixsl 1 (.t 6) (.t 8)) [],oD 11 1 10 [0],oM 5 11 [1,0,1]] false) (.reg [oM 12 3 [],oM 13 5 [],oN 14 (.call 130 [(.t 13)]) [1],oN 15 (.bslice 85 1 [.nils] 1 [(0,(.t 14))]) [2],oN 16 (.app 85 1 24 [.nils] (.t 12) (.t 15)) [0,3,2],oM 3 16 [4,4,0,1,2,3,4]] false))) (.reg [oN 17 (.bin .add (.t 8) (.c (.int .i64 1))) [],oM 8 17 [0]] false))))))) (.seq (.reg [oM 18 3 [],oM 2 18 [0,0]] false) .ret))))
theorem mcOkv85:okM Tryz.prog Tryz.f85 19=some mcv85:=by kernel_rfl
theorem vc85 (cs:List (List Pl)) (hc:∀ c∈cs,1<=c.length/\c.length<=1000) (hn:cs.length<=1000):FC Tryz.prog 85 [.rs 1 (cs.map cR)] [] (.rs 1 (cs.map cR)) [] true:=by
 refine Qj (nt:=19) Tryz.func85 rfl rfl mcOkv85 (nL rfl) ?_
 delta mcv85
 refine gA 12 rfl (Qh rfl rfl (gR 3 rfl ?_))
 refine Qr (α:=Nat) (fun k=>cs.length-k) (fun k=>[(3,.sl 901 0 (k)),(6,.rs 1 (cs.map cR)),(7,iv (cs.length:Int)),(8,iv (((k):Nat):Int))]) (fun k=>[(901,.cells 85 1 ((cs.take (k)).map cR) true)]) (fun k=>k<=cs.length) 0 (by omega)
  (Qa (.cons rfl (J4 rfl rfl) (Qb rfl rfl)) (.virt rfl (.nil)) (fun i h=>by cases h)) ?_
 intro k hk
 refine gT 5 rfl (Qe rfl (fun h9=>?_) (fun h9=>?_))
 ·replace h9:=of_decide_eq_true h9
  refine gK 5 rfl ?_
  obtain ⟨c,hck,hcm⟩:=Qo (L:=cs) (k:=k) (by omega)
  refine Qp (f:=cR) (y:=c) rfl rfl rfl (by omega) hck (gR 6 rfl (cN rfl rfl (vc130f c (hc c hcm)) (gR 0 rfl (Qi (l:=(([c]:List (List Pl))).flatMap cR) (els:=(([c]:List (List Pl))).map cR) (fl:=true) rfl (by kernel_rfl) rfl rfl (by kernel_rfl) (by kernel_rfl) (gR 0 rfl (QB (f:=cR) (xs:=cs.take k) (y:=c) (fl':=true) rfl rfl rfl rfl (by simp; omega) rfl rfl rfl (by decide) rfl (by omega) (by omega) rfl (gR 3 rfl (Qg rfl rfl rfl (by omega) (gR 2 rfl ?_)))))))))
  exact Q8 <| ⟨k+1,by omega,by omega,Q6 (i:=16) (i':=901) (F1:=[(3,.sl 16 0 (k+1)),(6,.rs 1 (cs.map cR)),(7,iv (cs.length:Int)),(8,iv (((k+1):Nat):Int))]) (H1:=[(16,.cells 85 1 ((cs.take (k+1)).map cR) true)]) (Qb rfl rfl) (.keep (by rw [Qv hck]; rfl) rfl (.nil)) (fun i h=>by cases h) rfl rfl (.cons rfl (.sl _ _) (.cons rfl (.same _) (.cons rfl (.same _) (.cons rfl (.same _) (.nil))))) (Qb rfl rfl) (.keep rfl rfl .nil) nz⟩
 ·replace h9:=of_decide_eq_false h9
  refine gK 7 rfl ?_
  obtain rfl:k=cs.length:=by omega
  rw [show cs.map cR=(cs.take cs.length).map cR by rw [List.take_length]]
  exact Qk <| Qs rfl (rc_frzA rfl rfl (by simp)) .nil
def mcv88:MC:=(.seq (.reg [oN 5 (.mv (.c (.bool false))) []] false) (.seq (.reg [oM 6 1 [],oD 7 1 2 [],oN 8 (.call 89 [(.t 6),(.t 7)]) [0,1],oN 9 (.un .not (.t 8)) [2],oM 5 9 [3,2,0,1,2,3]] false) .ret))
theorem mcOkv88:okM Tryz.prog Tryz.f88 10=some mcv88:=by kernel_rfl
theorem vc88 (c x:List Pl) (k:Int) (h:OkA x c):FC Tryz.prog 88 [iv k,.rs 4 (x.map cPl),.rp [.rs 4 (c.map cPl)]] [] (.bool (nearB c x)) [] false:=by
 refine Qj (nt:=10) Tryz.func88 rfl rfl mcOkv88 (nL rfl) ?_
 delta mcv88
 refine gA 8 rfl (cN rfl rfl (vc89 x c h) (gR 4 rfl ?_))
 exact Qk <| Qc rfl rfl rfl (.inr rfl)
def mcv87:MC:=(.seq (.reg [oN 4 (.mv (.c .nils)) []] false) (.seq (.reg [oN 5 (.mv (.c .nils)) []] false) (.seq (.seq (.reg [oM 8 0 [],oN 9 (.len (.t 8)) [0],oN 10 (.mv (.c (.int .i64 0))) []] false) (.block 0 (.loop (.seq (.reg [oN 11 (.bin .lss (.t 10) (.t 9)) []] false) (.seq (.cond (.t 11) .skip (.exit 0)) (.seq (.block 1 (.seq (.reg [oM 12 10 [],oN 13 (.ixsl 1 (.t 8) (.t 10)) [],oD 14 1 13 [1],oM 6 12 [0,0,1,2],oM 7 14 [2,3,0,1,2,3]] false) (.seq (.reg [oM 15 1 [],oM 16 6 [],oM 17 7 [],oN 18 (.callv (.t 15) [(.t 16),(.t 17)]) [0,1,2]] false) (.cond (.t 18) (.reg [oM 19 5 [],oM 20 7 [],oN 21 (.bslice 85 1 [.nils] 1 [(0,(.t 20))]) [1],oN 22 (.app 85 1 24 [.nils] (.t 19) (.t 21)) [0,2],oM 5 22 [3,3,0,1,2,3]] false) .skip)))) (.reg [oN 23 (.bin .add (.t 10) (.c (.int .i64 1))) [],oM 10 23 [0]] false))))))) (.seq (.reg [oM 24 5 [],oM 4 24 [0,0]] false) .ret))))
theorem mcOkv87:okM Tryz.prog Tryz.f87 25=some mcv87:=by kernel_rfl
theorem vc87 (c:List Pl) (s:List (List Pl)) (hx:∀ x∈s,OkA x c) (hs:s.length<=1000):FC Tryz.prog 87 [.rs 1 (s.map cR),.fn (.func 88) [.rp [.rs 4 (c.map cPl)]]] [] (.rs 1 ((s.filter (nearB c)).map cR)) [] true:=by
 refine Qj (nt:=25) Tryz.func87 rfl rfl mcOkv87 (nL rfl) ?_
 delta mcv87
 refine gA 12 rfl (Qh rfl rfl (gR 3 rfl ?_))
 refine Qr (α:=Nat) (fun k=>s.length-k) (fun k=>[(1,.fn (.func 88) [.rp [.rs 4 (c.map cPl)]]),(5,.sl 901 0 (((s.take (k)).filter (nearB c)).length)),(8,.rs 1 (s.map cR)),(9,iv (s.length:Int)),(10,iv (((k):Nat):Int))]) (fun k=>[(901,.cells 85 1 ((((s.take (k)).filter (nearB c))).map cR) true)]) (fun k=>k<=s.length) 0 (by omega)
  (Qa (.cs (.cons rfl (J4 rfl rfl) (.cs (.cs (.cs (.nil)))))) (.virt rfl (.nil)) (fun i h=>by cases h)) ?_
 intro k hk
 refine gT 5 rfl (Qe rfl (fun h11=>?_) (fun h11=>?_))
 ·replace h11:=of_decide_eq_true h11
  refine gK 6 rfl ?_
  obtain ⟨x,hxk,hxm⟩:=Qo (L:=s) (k:=k) (by omega)
  have hfl:=List.length_filter_le (nearB c) (s.take k)
  rw [List.length_take] at hfl
  refine Qp (f:=cR) (y:=x) rfl rfl rfl (by omega) hxk (gR 9 rfl (Xb [] rfl rfl (by kernel_rfl) rfl (JI (vc88 c x k (hx x hxm))) (.cons (Qd rfl) (.cons (Qd rfl) (.cons (Qd rfl) (.nil)))) .nil rfl rfl rfl ?_))
  cases h18:nearB c x
  ·skip
   refine gR 4 rfl (Qg rfl rfl rfl (by omega) (gR 2 rfl ?_))
   exact Q8 <| ⟨k+1,by omega,by omega,by rw [fl_f hxk h18]; exact Qa (Qb rfl rfl) (.keep rfl rfl .nil) nz⟩
  ·skip
   refine gR 5 rfl (Qi (l:=(([x]:List (List Pl))).flatMap cR) (els:=(([x]:List (List Pl))).map cR) (fl:=true) rfl (by kernel_rfl) rfl rfl (by kernel_rfl) (by kernel_rfl) (gR 0 rfl (QB (f:=cR) (xs:=((s.take (k)).filter (nearB c))) (y:=x) (fl':=true) rfl rfl rfl rfl (rfl) rfl rfl rfl (by decide) rfl (by omega) (by omega) rfl (gR 3 rfl (Qg rfl rfl rfl (by omega) (gR 2 rfl ?_))))))
   exact Q8 <| ⟨k+1,by omega,by omega,by rw [fl_t hxk h18,Xz]; exact Q6 (i:=22) (i':=901) (F1:=[(1,.fn (.func 88) [.rp [.rs 4 (c.map cPl)]]),(5,.sl 22 0 (((s.take (k)).filter (nearB c)).length+1)),(8,.rs 1 (s.map cR)),(9,iv (s.length:Int)),(10,iv (((k+1):Nat):Int))]) (H1:=[(22,.cells 85 1 ((((s.take (k)).filter (nearB c))++[x]).map cR) true)]) (Qb rfl rfl) (.keep rfl rfl .nil) nz rfl rfl (.cons rfl (.same _) (.cons rfl (.sl _ _) (.cons rfl (.same _) (.cons rfl (.same _) (.cons rfl (.same _) (.nil)))))) (Qb rfl rfl) (.keep rfl rfl .nil) nz⟩
 ·replace h11:=of_decide_eq_false h11
  refine gK 7 rfl ?_
  obtain rfl:k=s.length:=by omega
  rw [List.take_length]
  exact Qk <| Qs rfl (rc_frzA rfl rfl rfl) .nil
def mcv36:MC:=(.seq (.reg [oN 1 (.box 31 3 (.t 0)) [],oN 2 (.alloc 35 3 [.nils,.nils,.nils]) []] false) (.seq (.reg [oA 3 1 1 [],oD 4 1 3 [0],oN 5 (.len (.t 4)) [1],oN 6 (.mksl 4 1 1 [(.bool false)] (.t 5) (.t 5)) [2,2],oA 7 1 1 [],oD 8 1 7 [4],oN 9 (.len (.t 8)) [5],oN 10 (.mksl 4 1 1 [(.bool false)] (.t 9) (.t 9)) [6,6],oN 11 (.build [.nils,.nils,.nils] [(0,(1,(.t 6))),(1,(1,(.t 10)))]) [3,7],⟨none,(.st 3 (.t 2) (.t 11)),none,[8,0,1,2,3,4,5,6,7,8]⟩] true) .ret))
theorem mcOkv36:okM Tryz.prog Tryz.f36 12=some mcv36:=by kernel_rfl
theorem vc36 (p:Pa) (hn:p.cells.length<=1000):FC Tryz.prog 36 [.agg (cPa p)] [] (.agg (cPc (newS p.cells.length))) [] false:=by
 refine Qj (nt:=12) Tryz.func36 rfl rfl mcOkv36 (nL rfl) ?_
 delta mcv36
 refine gA 9 rfl (Qh rfl rfl (gR 0 rfl (rs_mksl (n:=(p.cells.length:Int)) rfl rfl rfl rfl rfl (by omega) (by omega) (by omega) (gR 2 rfl (Qh rfl rfl (gR 0 rfl (rs_mksl (n:=(p.cells.length:Int)) rfl rfl rfl rfl rfl (by omega) (by omega) (by omega) (gR 2 rfl (QJ (by kernel_rfl) (gP 1 rfl ?_))))))))))
 exact Qk <| Qs rfl (rc_agg (.cons (Xr (f:=cB) (xs:=List.replicate p.cells.length false) (by rw [Int.toNat_natCast,List.map_replicate]; rfl) rfl (by simp) (fun _=>rfl)) (.cons (Xr (f:=cB) (xs:=List.replicate p.cells.length false) (by rw [Int.toNat_natCast,List.map_replicate]; rfl) rfl (by simp) (fun _=>rfl)) (.cons QI .nil)))) .nil
end Go.Proofs.YthfhaoogcpfboaaGreat
namespace Go.Proofs.YthfhaoogcpfboaaGreat
open Go.RowKit
set_option maxRecDepth 100000
set_option linter.unusedVariables false
theorem u8L_cD:∀ (l:List Int),u8L (cD l)=some l
 | []=>rfl
 | a::l=>by show (u8L (cD l)).map (a :: ·)=_; rw [u8L_cD l]; rfl
theorem mark_8 (k m:List Int):(Xn k m).length=8:=(Jh _).2
theorem vc86n (c:List Pl):FC Tryz.prog 86 [.rs 4 (c.map cPl),.rs 1 []] [] (.bool true) [] false:=vc86 c [] (fun x hx=>by cases hx) (Nat.zero_le _)
theorem app_1 {p:Pa} {cs:List (List Pl)} (h:appE cs p.cells≠0):appS p cs=(⟨[],[],[]⟩,appE cs p.cells):=if_pos h
theorem app_0 {p:Pa} {cs:List (List Pl)} (h:appE cs p.cells=0):appS p cs=(⟨upd (su1 cs) p.cells p.cells.length,upd (touS cs) p.cells p.cells.length,cs⟩,0):=by
 unfold appS; rw [if_neg (fun q=>q h),upd_all (Nat.le_refl _),upd_all (Nat.le_refl _)]
theorem fl_2 {α:Type} (l:List α):([[],l]:List (List α)).flatten=l:=by simp
theorem fl_1 {α:Type} (l:List α):([l,[]]:List (List α)).flatten=l:=by simp
def mcv37:MC:=(.seq (.reg [oN 6 (.mv (.c (.bool false))) []] false) (.seq (.reg [oM 7 0 [],oN 8 (.seq true (.t 7) (.c (.str (Qm [])))) [0],oM 9 8 [1],pM 10 2 9 true [2],oG 11 (.slen (.t 10)) 9 true [3,2],oG 12 (.bin .eql (.t 11) (.c (.int .i64 8))) 9 true [4,2],oN 13 (.pick (.t 9) (.t 12) (.c (.bool false))) [2,5],oM 14 13 [6,2],pM 15 2 14 true [7],oG 16 (.s2b (.t 15)) 14 true [8,7],oG 17 (.s2ap 8 (.t 16)) 14 true [9,7],oG 18 (.ld true 8 (.t 17)) 14 true [10,7],pM 19 0 14 true [7],pM 20 1 14 true [7],oG 21 (.call 91 [(.t 19),(.t 20)]) 14 true [12,13,7,7],oG 22 (.aeq8 8 (.t 18) (.t 21)) 14 true [11,14,7],oN 23 (.pick (.t 14) (.t 22) (.c (.bool false))) [7,15],oM 6 23 [16,14,0,1,2,3,4,5,6,7,8,9,10,11,12,13,14,15,16]] true) .ret))
theorem mcOkv37:okM Tryz.prog Tryz.f37 24=some mcv37:=by kernel_rfl
theorem vc37 (k m:List Int) (hk:B8 k/\k.length<=LIM) (hm:B8 m/\m.length<=LIM) (h0:k≠[]):FC Tryz.prog 37 [.str (Qm k),.str (Qm m),.str (Qm (Xn k m))] [] (.bool true) [] false:=by
 have h8:=mark_8 k m
 refine Qj (nt:=24) Tryz.func37 rfl rfl mcOkv37 (nL rfl) ?_
 delta mcv37
 refine gA 7 rfl (rs_seq (r:=true) rfl rfl rfl hk.1 (fun x hx=>by cases hx) (by simp [h0]) (gR 2 rfl (rs_slen rfl rfl (gR 0 rfl (Js rfl rfl rfl rfl (by omega) (gR 3 rfl (rs_s2b (l:=Xn k m) rfl rfl (mark_ok k m).1 (gR 0 rfl (rs_s2ap (cD (Xn k m)) rfl (by rw [List.map_map]; rfl) (by simp; omega) (gR 0 rfl (QG (cs':=cD (Xn k m)) rfl rfl (by simp; omega) (by rw [List.take_take,List.take_of_length_le (by simp; omega)]) ?_)))))))))))
 refine gR 2 rfl (cN rfl rfl (vc91 k m hk hm) (gR 0 rfl (rs_aeq8 (Xn k m) (Xn k m) (b:=true) rfl rfl rfl (u8L_cD _) (u8L_cD _) h8 h8 (by simp) (gR 2 rfl (QJ (by kernel_rfl) (gP 1 rfl ?_))))))
 exact Qk <| Qc rfl rfl rfl (.inr rfl)
def mcv35:MC:=(.seq (.reg [oN 4 (.box 31 3 (.t 0)) [],oN 5 (.box 35 3 (.t 1)) [],oN 8 (.alloc 35 3 [.nils,.nils,.nils]) [],oN 9 (.mv (.c (.int .i64 0))) []] false) (.seq (.seq (.reg [oN 18 (.ld true 3 (.t 4)) [],oN 19 (.ld true 3 (.t 5)) [],oN 20 (.call 81 [(.t 18),(.t 19)]) [0,1],oM 10 20 [2,2,0,1,2]] false) (.seq (.reg [oM 21 10 [],oN 22 (.bin .neq (.t 21) (.c (.int .i64 0))) [0]] false) (.cond (.t 22) (.seq (.reg [oN 23 (.build [.nils,.nils,.nils] []) [],oM 24 10 [],⟨none,(.st 3 (.t 8) (.t 23)),none,[0,0]⟩,oM 9 24 [1,2,0,1,2]] false) .ret) .skip))) (.seq (.seq (.reg [oM 25 2 [],oM 26 3 [],oN 27 (.bslice 29 1 [.nils] 2 [(0,(.t 25)),(1,(.t 26))]) [0,1],oN 28 (.call 83 [(.t 27)]) [2],oN 29 (.call 82 [(.t 28)]) [3,3],oM 11 29 [4,4,0,1,2,3,4]] false) (.seq (.reg [oM 30 11 [],oN 31 (.bin .neq (.t 30) (.c (.int .i64 0))) [0]] false) (.cond (.t 31) (.seq (.reg [oN 32 (.build [.nils,.nils,.nils] []) [],oM 33 11 [],⟨none,(.st 3 (.t 8) (.t 32)),none,[0,0]⟩,oM 9 33 [1,2,0,1,2]] false) .ret) .skip))) (.seq (.seq (.reg [oA 34 2 5 [],oD 35 1 34 [0],oN 36 (.len (.t 35)) [1],oM 37 2 [],oN 38 (.len (.t 37)) [3],oN 39 (.bin .add (.t 36) (.t 38)) [2,4],oN 40 (.bin .gtr (.t 39) (.c (.int .i64 24))) [5]] false) (.cond (.t 40) (.seq (.reg [oN 41 (.build [.nils,.nils,.nils] []) [],⟨none,(.st 3 (.t 8) (.t 41)),none,[0,0]⟩,oN 9 (.mv (.c (.int .i64 2))) [1,0,1]] false) .ret) .skip)) (.seq (.reg [oA 42 0 5 [],oD 43 1 42 [0],oN 44 (.call 84 [(.t 43)]) [1],oA 45 1 5 [],oD 46 1 45 [3],oN 47 (.call 84 [(.t 46)]) [4,2],oA 48 2 5 [],oD 49 1 48 [6],oM 50 2 [],oN 51 (.bslice 29 1 [.nils] 2 [(0,(.t 49)),(1,(.t 50))]) [7,8],oN 52 (.call 83 [(.t 51)]) [9,5],oN 53 (.call 85 [(.t 52)]) [10,10],oN 54 (.build [.nils,.nils,.nils] [(0,(1,(.t 44))),(1,(1,(.t 47))),(2,(1,(.t 53)))]) [2,5,11],oN 12 (.alloc 35 3 [.nils,.nils,.nils]) [],⟨none,(.st 3 (.t 12) (.t 54)),none,[13,12,11,0,1,2,3,4,5,6,7,8,9,10,11,12,13]⟩] true) (.seq (.seq (.reg [oA 55 1 4 [],oD 56 1 55 [0],oN 57 (.len (.t 56)) [1],oN 58 (.mv (.c (.int .i64 0))) []] false) (.block 0 (.loop (.seq (.reg [oN 59 (.bin .lss (.t 58) (.t 57)) []] false) (.seq (.cond (.t 59) .skip (.exit 0)) (.seq (.block 1 (.seq (.reg [oM 60 58 [],oN 61 (.ixsl 1 (.t 56) (.t 58)) [],oD 62 1 61 [1],oN 14 (.alloc 85 1 [.nils]) [],oM 13 60 [0,0,1,2,3],⟨none,(.st 1 (.t 14) (.t 62)),none,[3,2,4,0,1,2,3,4]⟩] false) (.seq (.reg [oA 63 1 12 [],oD 64 1 63 [0],oM 65 13 [],oA 66 1 12 [],oD 67 1 66 [3],oM 68 13 [],oN 69 (.ixsl 1 (.t 67) (.t 68)) [4,5],oD 70 1 69 [6],oM 71 70 [7],pD 72 1 14 71 false [8],pM 73 2 71 false [8],oG 74 (.call 86 [(.t 72),(.t 73)]) 71 false [9,10,8,8],oG 75 (.un .not (.t 74)) 71 false [11,8],oN 76 (.pick (.t 71) (.c (.bool true)) (.t 75)) [8,12],oM 77 76 [13,11],pD 78 1 14 77 false [14],pM 79 3 77 false [14],oG 80 (.call 86 [(.t 78),(.t 79)]) 77 false [15,16,14,14],oG 81 (.un .not (.t 80)) 77 false [17,14],oN 82 (.pick (.t 77) (.c (.bool true)) (.t 81)) [14,18],oN 83 (.ixsl 1 (.t 64) (.t 65)) [1,2,0,1,2,3,4,5,6,7,8,9,10,11,12,13,14,15,16,17,18,19],⟨none,(.st 1 (.t 83) (.t 82)),none,[20,19,17,0,1,2,3,4,5,6,7,8,9,10,11,12,13,14,15,16,17,18,19]⟩] true) (.seq (.seq (.reg [oA 84 0 12 [],oD 85 1 84 [0],oM 86 13 [],oN 87 (.ixsl 1 (.t 85) (.t 86)) [1,2],oD 88 1 87 [3]] false) (.cond (.t 88) (.exit 1) .skip)) (.seq (.reg [oA 89 2 12 [],oD 90 1 89 [0],oN 91 (.mkfn (.func 88) [(.t 14)]) [],oN 92 (.call 87 [(.t 90),(.t 91)]) [1,2],oM 15 92 [3,3,0,1,2,3]] false) (.seq (.reg [oM 94 15 [],oD 95 1 14 [],oN 96 (.call 90 [(.t 94),(.t 95)]) [0,1],oM 93 96 [2],oN 97 (.ext (.t 93) 0) [3],oN 98 (.ext (.t 93) 1) [3],oM 16 97 [4,2,0,1,2,3,4],oM 17 98 [5,6,0,1,2,3,4,5,6]] false) (.seq (.seq (.reg [oM 99 17 [],oN 100 (.bin .neq (.t 99) (.c (.int .i64 0))) [0]] false) (.cond (.t 100) (.seq (.reg [oN 101 (.build [.nils,.nils,.nils] []) [],oM 102 17 [],⟨none,(.st 3 (.t 8) (.t 101)),none,[0,0]⟩,oM 9 102 [1,2,0,1,2]] false) .ret) .skip)) (.reg [oA 103 0 12 [],oD 104 1 103 [0],oM 105 13 [],oM 106 16 [],oN 107 (.ixsl 1 (.t 104) (.t 105)) [1,2,0,1,2,3],⟨none,(.st 1 (.t 107) (.t 106)),none,[4,3,0,1,2,3]⟩] false)))))))) (.reg [oN 108 (.bin .add (.t 58) (.c (.int .i64 1))) [],oM 58 108 [0]] false))))))) (.seq (.reg [oN 109 (.ld true 3 (.t 12)) [],⟨none,(.st 3 (.t 8) (.t 109)),none,[0,0]⟩,oN 9 (.mv (.c (.int .i64 0))) [1,0,1]] false) .ret)))))))
theorem mcOkv35:okM Tryz.prog Tryz.f35 110=some mcv35:=by kernel_rfl
set_option maxHeartbeats 2000000 in
theorem vc35 (p:Pa) (hp:GoodP p) (cs:List (List Pl)) (hc:∀ c∈cs,CutOK c) (hcn:cs.length<=3):FC Tryz.prog 35 [.agg (cPa p),.agg (cPc (newS p.cells.length)),.rs 1 (cs.map cR),.rs 1 []] [] (.tup [.agg (cPc (appS p cs).1),iv (appS p cs).2]) [] true:=by
 have hpn:=hp.n
 have hcl:∀ c∈cs,1<=c.length/\c.length<=8:=fun c h=>(hc c h).len
 refine Qj (nt:=110) Tryz.func35 rfl rfl mcOkv35 (nL rfl) ?_
 delta mcv35
 refine gA 12 rfl (cN rfl rfl (vc81 p hp.ok (newS p.cells.length) ⟨Nat.zero_le _,fun c h=>by cases h⟩) ?_)
 rw [fit_app hp (by simp [newS]) (by simp [newS]) (Nat.zero_le _) (fun c h=>by cases h)]
 refine gR 5 rfl (Xd rfl rfl rfl rfl (fun h=>h rfl) (gR 8 rfl (Qi (l:=(([cs,[]]:List (List (List Pl)))).flatMap cRR) (els:=(([cs,[]]:List (List (List Pl)))).map cRR) (fl:=true) rfl (by kernel_rfl) rfl rfl (by kernel_rfl) (by kernel_rfl) (gR 0 rfl (Q1 [(27,.cells 29 1 (([cs,[]]:List (List (List Pl))).map cRR) true)] rfl rfl (vc83_ 27 (by decide) [cs,[]] (by simp; omega) (by simp)) (.cons (Qd rfl) (.nil)) (.cons rfl (.nil)) rfl rfl rfl ?_)))))
 rw [fl_1]
 refine gR 0 rfl (cN rfl rfl (vc82 cs (by omega) (fun c h=>by have:=hcl c h; omega)) ?_)
 rw [ckAll_cut hc]
 refine gR 5 rfl (Xd rfl rfl rfl rfl (fun h=>h rfl) (gR 8 rfl (rs_len_r (n:=0) rfl rfl rfl (gR 1 rfl (Qh rfl rfl (gR 0 rfl (Qg rfl rfl rfl (by omega) (gR 0 rfl (Xd rfl rfl rfl rfl (by omega) (gR 7 rfl (cN rfl rfl (vc84a (List.replicate p.cells.length false) p.cells.length (by simp) (by omega)) ?_)))))))))))
 refine gR 2 rfl (cN rfl rfl (vc84b (List.replicate p.cells.length false) p.cells.length (by simp) (by omega)) (gR 3 rfl (Qi (l:=(([[],cs]:List (List (List Pl)))).flatMap cRR) (els:=(([[],cs]:List (List (List Pl)))).map cRR) (fl:=true) rfl (by kernel_rfl) rfl rfl (by kernel_rfl) (by kernel_rfl) (gR 0 rfl (Q1 [(51,.cells 29 1 (([[],cs]:List (List (List Pl))).map cRR) true)] rfl rfl (vc83_ 51 (by decide) [[],cs] (by simp; omega) (by simp)) (.cons (Qd rfl) (.nil)) (.cons rfl (.nil)) rfl rfl rfl ?_)))))
 rw [fl_2]
 refine gR 0 rfl (Q1 [] rfl rfl (vc85 cs (fun c h=>by have:=hcl c h; omega) (by omega)) (.cons (Qd rfl) (.nil)) (.nil) rfl rfl rfl (gR 3 rfl (QJ (by kernel_rfl) (gP 5 rfl (Qh rfl rfl (gR 3 rfl ?_))))))
 refine Qr (α:=Nat) (fun k=>p.cells.length-k) (fun k=>[(2,.rs 1 (cs.map cR)),(3,.rs 1 []),(8,.ptr 8 0 0),(12,.ptr 12 0 0),(56,.rs 1 (p.cells.map cR)),(57,iv (p.cells.length:Int)),(58,iv (((k):Nat):Int))]) (fun k=>[(8,.cells 35 3 [[.nils,.nils,.nils]] true),(12,.cells 35 3 [[.sl 1005 0 p.cells.length,.sl 1006 0 p.cells.length,.rs 1 (cs.map cR)]] false),(1005,.cells 4 1 ((upd (su1 cs) p.cells (k)).map cB) true),(1006,.cells 4 1 ((upd (touS cs) p.cells (k)).map cB) true)]) (fun k=>k<=p.cells.length/\appE cs (p.cells.drop k)=appE cs p.cells) 0 (⟨by omega,rfl⟩)
  (Qa (Qb rfl rfl) (.keep (rfl) rfl (.keep (rfl) rfl (.keep (by rw [upd_0]; rfl) rfl (.keep (by rw [upd_0]; rfl) rfl (.nil))))) (fun i h=>by cases h)) ?_
 rintro k ⟨hk,hinv⟩
 refine gT 5 rfl (Qe rfl (fun h59=>?_) (fun h59=>?_))
 ·replace h59:=of_decide_eq_true h59
  refine gK 6 rfl ?_
  obtain ⟨c,hck,hcm⟩:=Qo (L:=p.cells) (k:=k) (by omega)
  have hccl:=(hp.cells.ok c hcm).len
  rw [appE_at hck] at hinv
  refine Qp (f:=cR) (y:=c) rfl rfl rfl (by omega) hck (gR 13 rfl (Xf rfl rfl rfl rfl (by omega) (by omega) (gR 0 rfl (rs_ld_g (f:=cB) (xs:=upd (touS cs) p.cells (k)) (y:=false) rfl rfl rfl (upd_at (by omega)) rfl (gR 3 rfl (cN rfl rfl (vc86 c cs (fun x hx=>⟨by omega,by have:=hcl x hx; omega⟩) (by omega)) ?_))))))
  cases h74:sapartS c cs
  ·skip
   refine gR 8 rfl (Xf rfl rfl rfl rfl (by omega) (by omega) (gR 0 rfl (rs_st_m (f:=cB) (xs:=upd (touS cs) p.cells (k)) (t:=k) (v:=true) (fl':=true) rfl rfl rfl rfl (by rw [upd_len (by omega)]; omega) rfl rfl (nL rfl) rfl rfl (gR 0 rfl (QJ (by kernel_rfl) (gP 6 rfl (Xf rfl rfl rfl rfl (by omega) (by omega) (gR 0 rfl (rs_ld_g (f:=cB) (xs:=upd (su1 cs) p.cells (k)) (y:=false) rfl rfl rfl (upd_at (by omega)) rfl (gR 4 rfl (QE (F0:=[(2,.rs 1 (cs.map cR)),(3,.rs 1 []),(8,.ptr 8 0 0),(12,.ptr 12 0 0),(56,.rs 1 (p.cells.map cR)),(57,iv (p.cells.length:Int)),(58,iv (((k):Nat):Int)),(13,iv (((k):Nat):Int)),(14,.rp [.rs 4 (c.map cPl)])]) (H0:=[(8,.cells 35 3 [[.nils,.nils,.nils]] true),(12,.cells 35 3 [[.sl 1005 0 p.cells.length,.sl 1006 0 p.cells.length,.rs 1 (cs.map cR)]] false),(1005,.cells 4 1 ((upd (su1 cs) p.cells (k)).map cB) true),(1006,.cells 4 1 ((upd (touS cs) p.cells (k+1)).map cB) true)]) (Qa (.cs (.cs (.cs (.cs (.cs (.cs (.cs (.cs (.cons rfl (Xq rfl rfl (.inl rfl)) (.nil)))))))))) (.keep (rfl) rfl (.keep (rfl) rfl (.keep (rfl) rfl (.keep (by rw [← upd_set (f:=touS cs) hck,show touS cs c=true from by unfold touS; rw [h74]; rfl]; rfl) rfl (.nil))))) (fun i h=>by cases h)) ?_)))))))))))
   refine gK 4 rfl (Q1 [] rfl rfl (vc87 c cs (fun x hx=>⟨by have:=hcl x hx; omega,by omega⟩) (by omega)) (.cons (Qd rfl) (.cons (Qd rfl) (.nil))) (.nil) rfl rfl rfl (gR 6 rfl (cN rfl rfl ((show FC Tryz.prog 90 _ [] (.tup [.bool (su1 cs c),iv (sureS cs c).2]) [] false from vc90 (cs.filter (nearB c)) c ⟨by omega⟩ (fun q hq=>⟨by have:=hcl q (List.mem_filter.1 hq).1; omega⟩) (by have:=List.length_filter_le (nearB c) cs; omega))) (gR 10 rfl (Ja rfl rfl rfl (gR 1 rfl (Qe rfl (fun h100=>?_) (fun h100=>?_))))))))
   ·replace h100:=of_decide_eq_true h100
    refine gK 8 rfl ?_
    rw [if_pos h100] at hinv
    rw [app_1 (by rw [← hinv]; exact h100),← hinv]
    exact Qk <| Qs rfl (Xc (.cons (rc_agg (.cons QI (.cons QI (.cons QI .nil)))) (.cons sm .nil))) .nil
   ·replace h100:=of_decide_eq_false h100
    refine gK 6 rfl (Xf rfl rfl rfl rfl (by omega) (by omega) (gR 0 rfl (rs_st_m (f:=cB) (xs:=upd (su1 cs) p.cells (k)) (t:=k) (v:=su1 cs c) (fl':=true) rfl rfl rfl rfl (by rw [upd_len (by omega)]; omega) rfl rfl (nL rfl) rfl rfl (gR 2 rfl (Qg rfl rfl rfl (by omega) (gR 2 rfl ?_))))))
    rw [if_neg h100] at hinv
    exact Q8 <| ⟨k+1,⟨by omega,hinv⟩,by omega,Qa (Qb rfl rfl) (.keep (rfl) rfl (.keep (rfl) rfl (.keep (by rw [← upd_set (f:=su1 cs) hck]; rfl) rfl (.keep (rfl) rfl (.nil))))) (fun i h=>by cases h)⟩
  ·skip
   refine gR 5 rfl (cN rfl rfl (vc86n c) (gR 2 rfl (Xf rfl rfl rfl rfl (by omega) (by omega) (gR 0 rfl (rs_st_m (f:=cB) (xs:=upd (touS cs) p.cells (k)) (t:=k) (v:=false) (fl':=true) rfl rfl rfl rfl (by rw [upd_len (by omega)]; omega) rfl rfl (nL rfl) rfl rfl (gR 0 rfl (QJ (by kernel_rfl) (gP 6 rfl (Xf rfl rfl rfl rfl (by omega) (by omega) (gR 0 rfl (rs_ld_g (f:=cB) (xs:=upd (su1 cs) p.cells (k)) (y:=false) rfl rfl rfl (upd_at (by omega)) rfl ?_)))))))))))
   refine gR 4 rfl (QE (F0:=[(2,.rs 1 (cs.map cR)),(3,.rs 1 []),(8,.ptr 8 0 0),(12,.ptr 12 0 0),(56,.rs 1 (p.cells.map cR)),(57,iv (p.cells.length:Int)),(58,iv (((k):Nat):Int)),(13,iv (((k):Nat):Int)),(14,.rp [.rs 4 (c.map cPl)])]) (H0:=[(8,.cells 35 3 [[.nils,.nils,.nils]] true),(12,.cells 35 3 [[.sl 1005 0 p.cells.length,.sl 1006 0 p.cells.length,.rs 1 (cs.map cR)]] false),(1005,.cells 4 1 ((upd (su1 cs) p.cells (k)).map cB) true),(1006,.cells 4 1 ((upd (touS cs) p.cells (k+1)).map cB) true)]) (Qa (.cs (.cs (.cs (.cs (.cs (.cs (.cs (.cs (.cons rfl (Xq rfl rfl (.inl rfl)) (.nil)))))))))) (.keep (rfl) rfl (.keep (rfl) rfl (.keep (rfl) rfl (.keep (by rw [← upd_set (f:=touS cs) hck,show touS cs c=false from by unfold touS; rw [h74]; rfl]; rfl) rfl (.nil))))) (fun i h=>by cases h)) (gK 4 rfl (Q1 [] rfl rfl (vc87 c cs (fun x hx=>⟨by have:=hcl x hx; omega,by omega⟩) (by omega)) (.cons (Qd rfl) (.cons (Qd rfl) (.nil))) (.nil) rfl rfl rfl (gR 6 rfl (cN rfl rfl ((show FC Tryz.prog 90 _ [] (.tup [.bool (su1 cs c),iv (sureS cs c).2]) [] false from vc90 (cs.filter (nearB c)) c ⟨by omega⟩ (fun q hq=>⟨by have:=hcl q (List.mem_filter.1 hq).1; omega⟩) (by have:=List.length_filter_le (nearB c) cs; omega))) (gR 10 rfl (Ja rfl rfl rfl (gR 1 rfl (Qe rfl (fun h100=>?_) (fun h100=>?_))))))))))
   ·replace h100:=of_decide_eq_true h100
    refine gK 8 rfl ?_
    rw [if_pos h100] at hinv
    rw [app_1 (by rw [← hinv]; exact h100),← hinv]
    exact Qk <| Qs rfl (Xc (.cons (rc_agg (.cons QI (.cons QI (.cons QI .nil)))) (.cons sm .nil))) .nil
   ·replace h100:=of_decide_eq_false h100
    refine gK 6 rfl (Xf rfl rfl rfl rfl (by omega) (by omega) (gR 0 rfl (rs_st_m (f:=cB) (xs:=upd (su1 cs) p.cells (k)) (t:=k) (v:=su1 cs c) (fl':=true) rfl rfl rfl rfl (by rw [upd_len (by omega)]; omega) rfl rfl (nL rfl) rfl rfl (gR 2 rfl (Qg rfl rfl rfl (by omega) (gR 2 rfl ?_))))))
    rw [if_neg h100] at hinv
    exact Q8 <| ⟨k+1,⟨by omega,hinv⟩,by omega,Qa (Qb rfl rfl) (.keep (rfl) rfl (.keep (rfl) rfl (.keep (by rw [← upd_set (f:=su1 cs) hck]; rfl) rfl (.keep (rfl) rfl (.nil))))) (fun i h=>by cases h)⟩
 ·replace h59:=of_decide_eq_false h59
  refine gK 8 rfl ?_
  obtain rfl:k=p.cells.length:=by omega
  rw [app_0 (by rw [← hinv,List.drop_eq_nil_of_le (Nat.le_refl _)]; rfl)]
  exact Qk <| Qs rfl (Xc (.cons (rc_agg (.cons (Xr (f:=cB) (xs:=upd (su1 cs) p.cells (p.cells.length)) rfl rfl (upd_len (Nat.le_refl _)) (fun _=>rfl)) (.cons (Xr (f:=cB) (xs:=upd (touS cs) p.cells (p.cells.length)) rfl rfl (upd_len (Nat.le_refl _)) (fun _=>rfl)) (.cons sm .nil)))) (.cons sm .nil))) .nil
end Go.Proofs.YthfhaoogcpfboaaGreat
namespace Go.Proofs.YthfhaoogcpfboaaGreat
open Go.RowKit
set_option maxRecDepth 100000
set_option linter.unusedVariables false
def mixS (s:Int) (ls bs:List Lf):Nat->List Lf
 | 0=>ls
 | k+1=>if bitZ s k=true/\k<bs.length then (mixS s ls bs k).set k (Jj bs (k:Int)) else mixS s ls bs k
section
variable {s:Int} {ls bs:List Lf}
theorem mix_t {k:Nat} (h:bitZ s k=true) (h2:k<bs.length):mixS s ls bs (k+1)=(mixS s ls bs k).set k (Jj bs (k:Int)):=if_pos ⟨h,h2⟩
theorem mix_f {k:Nat} (h:¬ (bitZ s k=true/\k<bs.length)):mixS s ls bs (k+1)=mixS s ls bs k:=if_neg h
theorem mix_len:∀ k,(mixS s ls bs k).length=ls.length
 | 0=>rfl
 | k+1=>by
  unfold mixS
  split
  ·rw [List.length_set,mix_len k]
  ·exact mix_len k
theorem mix_ok (h:LvsOK ls) (hb:LvsOK bs):∀ k,LvsOK (mixS s ls bs k)
 | 0=>h
 | k+1=>by
  unfold mixS
  split
  ·rename_i hc
   exact (mix_ok h hb k).set (sel_ix hb (by omega) (by omega)) (hb.ok _ (sel_mem (by omega) (by omega)))
  ·exact mix_ok h hb k
theorem mix_out {i:Nat} (h:bitZ s i=false):∀ k,(mixS s ls bs k)[i]?=ls[i]?
 | 0=>rfl
 | k+1=>by
  unfold mixS
  split
  ·rename_i hc
   rw [List.getElem?_set_ne (fun e=>by rw [e,h] at hc; exact absurd hc.1 (by decide)),mix_out h k]
  ·exact mix_out h k
theorem some_bit {n:Nat} {x:Int} (h:x∈XR s n):∃ k:Nat,x=(k:Int)/\bitZ s k=false:=by
 obtain ⟨k,hk,rfl⟩:=List.mem_map.1 h
 have:=of_decide_eq_true (List.mem_filter.1 hk).2
 exact ⟨k,rfl,decide_eq_false (by rw [this]; decide)⟩
theorem mix_sel (n k:Nat):(XR s n).map (Jj (mixS s ls bs k))=(XR s n).map (Jj ls):=List.map_congr_left fun x hx=>by
 obtain ⟨i,rfl,hb⟩:=some_bit hx
 unfold Jj
 rw [List.getD_eq_getElem?_getD,List.getD_eq_getElem?_getD,Int.toNat_natCast,mix_out hb]
theorem some_nodup (n:Nat):(XR s n).Nodup:=by
 unfold XR
 refine List.Pairwise.map _ (fun a b (h:a≠b)=>?_) (List.nodup_range.filter _)
 omega
end
theorem one_of {α:Type} {l:List α} {c:α} (h:l.Nodup) (h2:∀ x∈l,x=c):l.length<=1:=by
 match l,h,h2 with
 | [],_,_=>exact Nat.zero_le _
 | [a],_,_=>exact Nat.le_refl _
 | a::b::t,h,h2 =>
  have e1:=h2 a (by simp)
  have e2:=h2 b (by simp)
  simp [e1,e2] at h
theorem win_split (b p:Nat):∀ w:List Int,(w.filter (XA (b,p+p))).length=(w.filter (XA (b,p))).length+(w.filter (XA (b+p,p))).length
 | []=>rfl
 | x::w=>by
  have ih:=win_split b p w
  by_cases h1:(b:Int)<=x
  ·by_cases h2:x<((b+p:Nat):Int)
   ·have e1:XA (b,p+p) x=true:=by simp [XA]; omega
    have e2:XA (b,p) x=true:=by simp [XA]; omega
    have e3:XA (b+p,p) x=false:=by simp [XA]; omega
    simp only [List.filter_cons,e1,e2,e3,if_true,List.length_cons,Bool.false_eq_true,if_false]; omega
   ·have e2:XA (b,p) x=false:=by simp [XA]; omega
    by_cases h3:x<((b+p+p:Nat):Int)
    ·have e1:XA (b,p+p) x=true:=by simp [XA]; omega
     have e3:XA (b+p,p) x=true:=by simp [XA]; omega
     simp only [List.filter_cons,e1,e2,e3,if_true,List.length_cons,Bool.false_eq_true,if_false]; omega
    ·have e1:XA (b,p+p) x=false:=by simp [XA]; omega
     have e3:XA (b+p,p) x=false:=by simp [XA]; omega
     simp only [List.filter_cons,e1,e2,e3,Bool.false_eq_true,if_false]; omega
  ·have e1:XA (b,p+p) x=false:=by simp [XA]; omega
   have e2:XA (b,p) x=false:=by simp [XA]; omega
   have e3:XA (b+p,p) x=false:=by simp [XA]; omega
   simp only [List.filter_cons,e1,e2,e3,Bool.false_eq_true,if_false]; omega
theorem win_0 {w:List Int} {s:Nat×Nat} (h:w.any (XA s)=false):(w.filter (XA s)).length=0:=by
 rw [List.length_eq_zero_iff,List.filter_eq_nil_iff]
 exact List.any_eq_false.1 h
theorem win_out {n b p:Nat} {w:List Int} (hw:∀ x∈w,0<=x/\x<(n:Int)) (h:n<=b):(w.filter (XA (b,p))).length=0:=by
 rw [List.length_eq_zero_iff,List.filter_eq_nil_iff]
 intro x hx
 have:=(hw x hx).2
 simp [XA]; omega
theorem hid_cnt {n:Nat} {w:List Int} (hd:w.Nodup) (hw:∀ x∈w,0<=x/\x<(n:Int)):∀ d b,(QW n w d b).length+(w.filter (XA (b,2^d))).length<=min (2^d) (n-b)
 | 0,b=>by
  unfold QW hid1
  split
  ·rename_i h; rw [win_out hw h]; simp
  ·rename_i h
   split
   ·have:(w.filter (XA (b,2^0))).length<=1:=one_of (c:=(b:Int)) (hd.filter _) fun x hx=>by
     have:=(List.mem_filter.1 hx).2
     simp [XA] at this; omega
    simp only [List.length_nil,Nat.pow_zero] at this ⊢; omega
   ·rename_i h2
    rw [win_0 (Bool.eq_false_iff.2 h2)]
    simp only [List.length_cons,List.length_nil,Nat.pow_zero]; omega
 | d+1,b=>by
  have h1:=hid_cnt hd hw d b
  have h2:=hid_cnt hd hw d (b+2^d)
  have hp:2^(d+1)=2^d+2^d:=by rw [Nat.pow_succ]; omega
  have hpos:1<=2^d:=Nat.one_le_two_pow
  unfold QW hid1
  split
  ·rename_i h; rw [win_out hw h]; simp
  ·rename_i h
   split
   ·rw [hp,win_split,List.length_append]; omega
   ·rename_i h3
    rw [win_0 (Bool.eq_false_iff.2 h3),hp]
    simp only [List.length_cons,List.length_nil]; omega
theorem some_cnt (s:Int) {n:Nat} (h:n<=16):(X0 n (XR s n)).length+(XR s n).length<=n:=by
 have hb:=some_bd (s:=s) (n:=n)
 have h1:=hid_cnt (some_nodup (s:=s) n) hb (lg n) 0
 have h2:=(lg_fit n (by omega)).1
 unfold X0
 generalize 2^lg n=P at h1 h2
 rw [List.filter_eq_self.2 (fun x hx=>by have:=hb x hx; simp [XA]; omega)] at h1
 omega
theorem change_mix {n:Int} {lv:List Lf} {h1 h2:List (List Int)} {x y:List (Nat×Nat)} (e1:fmS n lv h1=some x) (e2:fmS n lv h2=some y):JE n lv h1 n lv h2=if h1=h2 then 0 else 54:=by
 have hs:((fmS n lv h1).isSome&&(fmS n lv h2).isSome)=true:=by rw [e1,e2]; rfl
 by_cases e:h1=h2
 ·subst e
  rw [if_pos rfl,ch_5 hs (by simp) (allZ_iff.2 fun k x y hx hy=>by rw [hx] at hy; injection hy with hy; subst hy; simp [JW]) (allZ_iff.2 fun k x y hx hy=>by rw [hx] at hy; injection hy with hy; subst hy; simp [JR])]
 ·rw [if_neg e,ch_2 hs (by simp [e])]
theorem fine_of {p:Pa} {x:Pc} (h:Jv p x=0):fineB (JN p x)=true:=by
 unfold JN
 rw [if_neg (fun q=>q h)]
 split
 ·rfl
 ·split
  ·rfl
  ·split <;> rfl
theorem leaves_of {p:Pa} {x:Pc} {s:List Int} (h:Jv p x=0) (hs:s≠[]):Xh p x s=(List.range p.want.length).map (Je p x s):=if_pos ⟨fine_of h,hs⟩
theorem lea_len {p:Pa} {x:Pc} {s:List Int} (h:Jv p x=0) (hs:s≠[]):(Xh p x s).length=p.cells.length:=by rw [leaves_of h hs,List.length_map,List.length_range]; exact (fit_len h).1
theorem lea_at {p:Pa} {x:Pc} {s:List Int} (h:Jv p x=0) (hs:s≠[]) {k:Nat} (hk:k<p.cells.length):(Xh p x s)[k]?=some (Je p x s k):=by
 rw [leaves_of h hs,List.getElem?_map,List.getElem?_range (by rw [(fit_len h).1]; exact hk)]; rfl
theorem b_at {l:List Bool} {k:Nat} (h:k<l.length):l[k]?=some (l.getD k false):=by
 rw [List.getD_eq_getElem?_getD,List.getElem?_eq_getElem h]; rfl
theorem app_ok {p:Pa} (hp:GoodP p) {cs:List (List Pl)} (h:∀ c∈cs,CutOK c) (hn:cs.length<=3) (h0:(appS p cs).2=0):Jv p (appS p cs).1=0/\PcOK (appS p cs).1:=by
 have e:appE cs p.cells=0:=by
  refine Decidable.byContradiction fun q=>?_
  rw [app_1 q] at h0; exact q h0
 rw [app_0 e]
 exact ⟨fit_app hp (upd_len (Nat.le_refl _)) (upd_len (Nat.le_refl _)) hn h,⟨show cs.length<=1000 by omega,fun c hc=>by have:=(h c hc).len; omega⟩⟩
theorem app_9 {p:Pa} (hp:GoodP p) {cs:List (List Pl)} (h:∀ c∈cs,CutOK c) (hn:cs.length<=3) (h0:(appS p cs).2≠0):(appS p cs).2=9:=by
 by_cases q:appE cs p.cells=0
 ·rw [app_0 q] at h0; exact absurd rfl h0
 ·rw [app_1 q]; exact (appE_e hp h hn fun c hc=>hc).resolve_left q
abbrev SEC:List Int:=[115,101,99,114,101,116]
theorem sec_ok:B8 SEC/\SEC.length<=LIM:=⟨fun x hx=>by simp only [List.mem_cons,List.not_mem_nil,or_false] at hx; omega,by decide⟩
theorem sl_3 (cs:List (List Int)):((cs.map cLi).drop (0:Int).toNat).take ((min (cs.length:Int) 3).toNat-(0:Int).toNat)=(cs.take (min cs.length 3)).map cLi:=by
 rw [Int.toNat_zero,List.drop_zero,← List.map_take,Nat.sub_zero]
 congr 2
 omega
theorem rs_bne_f {P:Program} {N:Nat} {F:Fr} {H:Hp} {ml:List MOper} {K:List Fp->Fr->Hp->Prop} {d:Nat} {g:Option (Nat×Bool)} {pre:List Nat} {x y:Arg} {a b:Bool} (hg:gOK F g=true) (hx:Ql F x=some (.bool a)) (hy:Ql F y=some (.bool b)) (hab:a=b)
  (h:RS P N ml ((d,.bool false)::F) H (fun fps=>K (([],[])::fps))):RS P N (⟨some d,.beq true x y,g,pre⟩::ml) F H K :=
 rs_beq hg hx hy (by rw [show (true != (a == b))=false by subst hab; simp]; exact h)
def mcv7:MC:=(.seq (.reg [oN 4 (.box 23 2 (.t 0)) [],oN 6 (.box 23 2 (.t 2)) [],oN 8 (.mv (.c (.bool false))) []] false) (.seq (.reg [oN 25 (.call 8 []) [],oM 9 25 [0,0,0]] false) (.seq (.reg [oN 26 (.ixarr 2 1 (.t 4) (.c (.int .i64 0))) [],oD 27 1 26 [0],oN 28 (.call 14 [(.t 27)]) [1],oN 29 (.ixarr 2 1 (.t 4) (.c (.int .i64 1))) [],oD 30 1 29 [3],oN 31 (.call 14 [(.t 30)]) [4,2],oM 10 28 [2,5,0,1,2],oM 11 31 [5,6,0,1,2,3,4,5,6]] true) (.seq (.reg [oM 32 1 [],oM 33 10 [],oN 34 (.len (.t 33)) [1],oN 35 (.call 21 [(.t 32),(.t 34)]) [0,2],oM 12 35 [3,3,0,1,2,3]] false) (.seq (.reg [oN 36 (.bslice 51 5 [(.int .i64 0),(.int .i64 0),(.bool false),(.bool false),(.str (Qm []))] 0 []) [],oM 37 10 [],oN 38 (.app 51 5 40 [(.int .i64 0),(.int .i64 0),(.bool false),(.bool false),(.str (Qm []))] (.t 36) (.t 37)) [0,1],oM 13 38 [2,2,0,1,2]] false) (.seq (.seq (.reg [oM 39 13 [],oN 40 (.len (.t 39)) [0],oN 41 (.mv (.c (.int .i64 0))) []] false) (.block 0 (.loop (.seq (.reg [oN 42 (.bin .lss (.t 41) (.t 40)) []] false) (.seq (.cond (.t 42) .skip (.exit 0)) (.seq (.block 1 (.seq (.reg [oM 43 41 [],oM 14 43 [0,0]] false) (.seq (.reg [oM 44 1 [],oM 45 14 [],oN 46 (.bin .shr (.t 44) (.t 45)) [0,1],oN 47 (.bin .and (.t 46) (.c (.int .i64 1))) [2],oN 48 (.bin .eql (.t 47) (.c (.int .i64 0))) [3],oM 49 48 [4],pM 50 14 49 true [5],pM 51 11 49 true [5],oG 52 (.len (.t 51)) 49 true [7,5],oG 53 (.bin .lss (.t 50) (.t 52)) 49 true [6,8,5],oN 54 (.pick (.t 49) (.t 53) (.c (.bool false))) [5,9]] false) (.cond (.t 54) (.reg [oM 55 13 [],oM 56 14 [],oM 57 11 [],oM 58 14 [],oN 59 (.ixsl 5 (.t 57) (.t 58)) [2,3],oN 60 (.ld true 5 (.t 59)) [4],oN 61 (.ixsl 5 (.t 55) (.t 56)) [0,1,0,1,2,3,4,5],⟨none,(.st 5 (.t 61) (.t 60)),none,[6,5,0,1,2,3,4,5]⟩] false) .skip)))) (.reg [oN 62 (.bin .add (.t 41) (.c (.int .i64 1))) [],oM 41 62 [0]] false))))))) (.seq (.reg [oM 64 10 [],oM 65 12 [],oN 66 (.call 22 [(.t 64),(.t 65)]) [0,1],oM 63 66 [2],oN 67 (.ext (.t 63) 0) [3],oN 68 (.ext (.t 63) 1) [3],oN 15 (.alloc 55 3 [(.int .i64 0),.nils,.nils]) [],⟨none,(.st 3 (.t 15) (.t 67)),none,[6,4,2,0,1,2,3,4,6]⟩,oM 16 68 [5,7,0,1,2,3,4,5,6,7]] false) (.seq (.reg [oM 70 13 [],oM 71 12 [],oN 72 (.call 22 [(.t 70),(.t 71)]) [0,1],oM 69 72 [2],oN 73 (.ext (.t 69) 0) [3],oN 74 (.ext (.t 69) 1) [3],oN 17 (.alloc 55 3 [(.int .i64 0),.nils,.nils]) [],⟨none,(.st 3 (.t 17) (.t 73)),none,[6,4,2,0,1,2,3,4,6]⟩,oM 18 74 [5,7,0,1,2,3,4,5,6,7]] false) (.seq (.seq (.reg [oM 75 16 [],oN 76 (.bin .neq (.t 75) (.c (.int .i64 0))) [0],oM 77 76 [1],pM 78 18 77 false [2],oG 79 (.bin .neq (.t 78) (.c (.int .i64 0))) 77 false [3,2],oN 80 (.pick (.t 77) (.c (.bool true)) (.t 79)) [2,4],oM 81 80 [5,2],pA 82 1 15 81 false [6],pD 83 1 82 81 false [7,6],pA 84 1 17 81 false [6],pD 85 1 84 81 false [9,6],oG 86 (.call 18 [(.t 83),(.t 85)]) 81 false [8,10,6,6],oG 87 (.un .not (.t 86)) 81 false [11,6],oN 88 (.pick (.t 81) (.c (.bool true)) (.t 87)) [6,12],oM 89 88 [13,11],pA 90 2 15 89 false [14],pD 91 1 90 89 false [15,14],oG 92 (.len (.t 91)) 89 false [16,14],pA 93 2 17 89 false [14],pD 94 1 93 89 false [18,14],oG 95 (.len (.t 94)) 89 false [19,14],oG 96 (.bin .neq (.t 92) (.t 95)) 89 false [17,20,14],oN 97 (.pick (.t 89) (.c (.bool true)) (.t 96)) [14,21],oM 98 97 [22,14],pA 99 2 15 98 false [23],pD 100 1 99 98 false [24,23],oG 101 (.len (.t 100)) 98 false [25,23],pM 102 10 98 false [23],oG 103 (.len (.t 102)) 98 false [27,23],pM 104 12 98 false [23],oG 105 (.len (.t 104)) 98 false [29,23],oG 106 (.bin .sub (.t 103) (.t 105)) 98 false [28,30,23],oG 107 (.bin .gtr (.t 101) (.t 106)) 98 false [26,31,23],oN 108 (.pick (.t 98) (.c (.bool true)) (.t 107)) [23,32]] false) (.cond (.t 108) (.seq (.reg [oN 8 (.mv (.c (.bool false))) []] false) .ret) .skip)) (.seq (.seq (.reg [oN 109 (.ld true 3 (.t 15)) [],oN 110 (.ld true 3 (.t 17)) [],oN 111 (.call 29 [(.t 109),(.t 110)]) [0,1],oN 112 (.bin .eql (.t 111) (.c (.int .i64 0))) [2],oA 113 2 15 [],oD 114 1 113 [4],oA 115 2 17 [],oD 116 1 115 [6],oN 117 (.call 34 [(.t 114),(.t 116)]) [5,7,2],oN 118 (.beq true (.t 112) (.t 117)) [3,8]] true) (.cond (.t 118) (.seq (.reg [oN 8 (.mv (.c (.bool false))) []] false) .ret) .skip)) (.seq (.reg [oN 119 (.slarr 2 (.t 6) none none) [],oN 120 (.call 9 [(.t 119)]) [0],oN 19 (.alloc 31 3 [(.str (Qm [])),.nils,.nils]) [],⟨none,(.st 3 (.t 19) (.t 120)),none,[2,1,1,0,1,2]⟩] false) (.seq (.reg [oN 122 (.ld true 3 (.t 19)) [],oN 123 (.ld true 3 (.t 19)) [],oN 124 (.call 36 [(.t 123)]) [1],oM 125 3 [],oM 126 3 [],oN 127 (.len (.t 126)) [4],oN 128 (.mn (.t 127) (.c (.int .i64 3))) [5],oN 129 (.slc 1 (.t 125) none (some (.t 128))) [3,6],oN 130 (.ld true 3 (.t 19)) [],oN 131 (.call 12 [(.t 129),(.t 130)]) [7,8,2],oN 132 (.call 35 [(.t 122),(.t 124),(.t 131),(.c .nils)]) [0,2,9,9],oM 121 132 [10],oN 133 (.ext (.t 121) 0) [11],oN 134 (.ext (.t 121) 1) [11],oN 20 (.alloc 35 3 [.nils,.nils,.nils]) [],⟨none,(.st 3 (.t 20) (.t 133)),none,[14,12,10,0,1,2,3,4,5,6,7,8,9,10,11,12,14]⟩,oM 21 134 [13,15,0,1,2,3,4,5,6,7,8,9,10,11,12,13,14,15]] true) (.seq (.seq (.reg [oM 135 21 [],oN 136 (.bin .neq (.t 135) (.c (.int .i64 0))) [0]] false) (.cond (.t 136) (.seq (.reg [oM 137 9 [],oM 138 137 [0],pM 139 21 138 true [1],oG 140 (.bin .eql (.t 139) (.c (.int .i64 9))) 138 true [2,1],oN 141 (.pick (.t 138) (.t 140) (.c (.bool false))) [1,3],oM 8 141 [4,1,0,1,2,3,4]] false) .ret) .skip)) (.seq (.reg [oN 142 (.ld true 3 (.t 19)) [],oN 143 (.ld true 3 (.t 20)) [],oN 144 (.call 16 [(.t 142),(.t 143),(.c (.str (Qm [115,101,99,114,101,116])))]) [0,1],oM 22 144 [2,2,0,1,2]] false) (.seq (.seq (.reg [oM 145 22 [],oN 146 (.len (.t 145)) [0],oA 147 1 19 [],oD 148 1 147 [2],oN 149 (.len (.t 148)) [3],oN 150 (.bin .neq (.t 146) (.t 149)) [1,4],oM 151 150 [5],pA 152 0 20 151 false [6],pD 153 1 152 151 false [7,6],oG 154 (.len (.t 153)) 151 false [8,6],pA 155 1 19 151 false [6],pD 156 1 155 151 false [10,6],oG 157 (.len (.t 156)) 151 false [11,6],oG 158 (.bin .neq (.t 154) (.t 157)) 151 false [9,12,6],oN 159 (.pick (.t 151) (.c (.bool true)) (.t 158)) [6,13],oM 160 159 [14,6],pA 161 1 20 160 false [15],pD 162 1 161 160 false [16,15],oG 163 (.len (.t 162)) 160 false [17,15],pA 164 1 19 160 false [15],pD 165 1 164 160 false [19,15],oG 166 (.len (.t 165)) 160 false [20,15],oG 167 (.bin .neq (.t 163) (.t 166)) 160 false [18,21,15],oN 168 (.pick (.t 160) (.c (.bool true)) (.t 167)) [15,22]] false) (.cond (.t 168) (.seq (.reg [oN 8 (.mv (.c (.bool false))) []] false) .ret) .skip)) (.seq (.seq (.reg [oM 169 22 [],oN 170 (.len (.t 169)) [0],oN 171 (.mv (.c (.int .i64 0))) []] false) (.block 2 (.loop (.seq (.reg [oN 172 (.bin .lss (.t 171) (.t 170)) []] false) (.seq (.cond (.t 172) .skip (.exit 2)) (.seq (.block 3 (.seq (.reg [oM 173 171 [],oN 174 (.ixsl 5 (.t 169) (.t 171)) [],oN 175 (.ld true 5 (.t 174)) [1],oN 24 (.alloc 51 5 [(.int .i64 0),(.int .i64 0),(.bool false),(.bool false),(.str (Qm []))]) [],oM 23 173 [0,0,1,2,3],⟨none,(.st 5 (.t 24) (.t 175)),none,[3,2,4,0,1,2,3,4]⟩] false) (.seq (.reg [oA 176 0 24 [],oD 177 1 176 [0],oM 178 23 [],oN 179 (.bin .neq (.t 177) (.t 178)) [1,2],oM 180 179 [3],pA 181 1 24 180 false [4],pD 182 1 181 180 false [5,4],pA 183 2 19 180 false [4],pD 184 1 183 180 false [7,4],pM 185 23 180 false [4],oG 186 (.ixsl 1 (.t 184) (.t 185)) 180 false [8,9,4],pD 187 1 186 180 false [10,4],oG 188 (.bin .neq (.t 182) (.t 187)) 180 false [6,11,4],oN 189 (.pick (.t 180) (.c (.bool true)) (.t 188)) [4,12],oM 190 189 [13,4],pA 191 2 24 190 false [14],pD 192 1 191 190 false [15,14],pA 193 0 20 190 false [14],pD 194 1 193 190 false [17,14],pM 195 23 190 false [14],oG 196 (.ixsl 1 (.t 194) (.t 195)) 190 false [18,19,14],pD 197 1 196 190 false [20,14],oG 198 (.beq true (.t 192) (.t 197)) 190 false [16,21,14],oN 199 (.pick (.t 190) (.c (.bool true)) (.t 198)) [14,22],oM 200 199 [23,14],pA 201 3 24 200 false [24],pD 202 1 201 200 false [25,24],pA 203 1 20 200 false [24],pD 204 1 203 200 false [27,24],pM 205 23 200 false [24],oG 206 (.ixsl 1 (.t 204) (.t 205)) 200 false [28,29,24],pD 207 1 206 200 false [30,24],oG 208 (.beq true (.t 202) (.t 207)) 200 false [26,31,24],oN 209 (.pick (.t 200) (.c (.bool true)) (.t 208)) [24,32],oM 210 209 [33,24],pM 211 23 210 false [34],oG 212 (.call 38 [(.t 211)]) 210 false [35,34,34],pA 213 4 24 210 false [34],pD 214 1 213 210 false [37,34],oG 215 (.call 37 [(.c (.str (Qm [115,101,99,114,101,116]))),(.t 212),(.t 214)]) 210 false [36,38,36,34],oG 216 (.un .not (.t 215)) 210 false [39,34],oN 217 (.pick (.t 210) (.c (.bool true)) (.t 216)) [34,40]] true) (.cond (.t 217) (.seq (.reg [oN 8 (.mv (.c (.bool false))) []] false) .ret) .skip)))) (.reg [oN 218 (.bin .add (.t 171) (.c (.int .i64 1))) [],oM 171 218 [0]] false))))))) (.seq (.reg [oM 219 9 [],oM 8 219 [0,0]] false) .ret)))))))))))))))))
theorem mcOkv7:okM Tryz.prog Tryz.f7 220=some mcv7:=by kernel_rfl
set_option maxHeartbeats 4000000 in
theorem vc7 (n0 n1:List Int) (hn0:n0.length<=4611686018427387904) (hn1:n1.length<=4611686018427387904) (s:Int) (l0 l1:List Int) (hl0:l0.length<=4611686018427387904) (hl1:l1.length<=4611686018427387904) (cs:List (List Int)) (hcn:cs.length<=4611686018427387904) (hcs:∀ L∈cs,L.length<=4611686018427387904):FC Tryz.prog 7 [.agg [ints n0,ints n1],iv s,.agg [ints l0,ints l1],.rs 1 (cs.map cLi)] [] (.bool true) [] false:=by
 refine Qj (nt:=220) Tryz.func7 rfl rfl mcOkv7 (nL rfl) ?_
 delta mcv7
 refine gA 8 rfl (cN rfl rfl (vc8) (gR 3 rfl (QE (F0:=[(1,iv s),(3,.rs 1 (cs.map cLi)),(4,.ptr 4 0 0),(6,.rp [ints l0,ints l1]),(9,.bool true)]) (H0:=[(4,.cells 23 2 [[ints n0,ints n1]] true)]) (Qa (.cs (.cs (.cs (.cons rfl (Xq rfl rfl (.inl rfl)) (.cs (.nil)))))) (.keep rfl rfl .nil) nz) (gK 1 rfl (Q0 rfl rfl rfl (by decide) (by decide) (gR 1 rfl (cN rfl rfl (vc14 n0 hn0) (gR 0 rfl (Q0 rfl rfl rfl (by decide) (by decide) (gR 1 rfl (cN rfl rfl (vc14 n1 hn1) ?_)))))))))))
 refine gR 2 rfl (QJ (by kernel_rfl) (gP 1 rfl ?_))
 have hl:=made_ok n0
 generalize madeS n0=ls at hl ⊢
 have hln:=hl.n
 have hb:=made_ok n1
 generalize madeS n1=bs at hb ⊢
 have hbn:=hb.n
 refine gI 3 rfl (Qh rfl rfl (gR 0 rfl (cN rfl rfl (vc21 s ls.length (by omega)) (gR 4 rfl (Qi (l:=[]) (els:=[]) (fl:=true) rfl (by kernel_rfl) rfl rfl rfl rfl (gR 1 rfl (JZ (f:=cLf) (ys:=ls) (n:=ls.length) (rd:=[]) rfl rfl rfl rfl rfl rfl rfl (by simp) (fun _=>rfl) rfl (by omega) (by omega) (fun _=>rfl) (gR 6 rfl (Xi rfl rfl (gR 3 rfl ?_))))))))))
 refine Qr (α:=Nat) (fun k=>ls.length-k) (fun k=>[(1,iv s),(3,.rs 1 (cs.map cLi)),(6,.rp [ints l0,ints l1]),(9,.bool true),(10,.rs 5 (ls.map cLf)),(11,.rs 5 (bs.map cLf)),(12,.rs 1 ((XR s ls.length).map civ)),(13,.sl 38 0 ls.length),(39,.sl 38 0 ls.length),(40,iv (ls.length:Int)),(41,iv (((k):Nat):Int))]) (fun k=>[(38,.cells 51 5 ((mixS s ls bs (k)).map cLf) true)]) (fun k=>k<=ls.length) 0 (by omega)
  (Qa (Qb rfl rfl) (.keep rfl rfl .nil) nz) ?_
 intro k hk
 refine gT 5 rfl (Qe rfl (fun h42=>?_) (fun h42=>?_))
 ·first | replace h42:=of_decide_eq_true h42 | skip
  refine gK 12 rfl (XW rfl rfl rfl (by omega) rfl (gR 0 rfl (rs_and rfl rfl rfl rfl (gR 0 rfl (Q9 rfl rfl rfl rfl (fun h48=>?_) (fun h48=>?_))))))
  ·skip
   refine gR 3 rfl (Qh rfl rfl (gR 0 rfl (Q9 rfl rfl rfl rfl (fun h53=>?_) (fun h53=>?_))))
   ·skip
    refine gR 8 rfl (Qp (f:=cLf) (y:=Jj bs (k:Int)) rfl rfl rfl (by omega) (sel_some (by omega) (by omega)) (gR 0 rfl (QG (cs:=cLf (Jj bs (k:Int))) rfl rfl (nL rfl) rfl (gR 0 rfl (Xf rfl rfl rfl rfl (by omega) (by omega) (gR 0 rfl (rs_st_m (f:=cLf) (xs:=mixS s ls bs k) (t:=k) (v:=Jj bs (k:Int)) (fl':=true) rfl rfl rfl rfl (by rw [mix_len]; omega) rfl rfl (nL rfl) rfl rfl (gR 2 rfl ?_))))))))
    first | refine Qg rfl rfl rfl (by omega) ?_ | refine QH rfl rfl rfl rfl ?_
    refine gR 2 rfl ?_
    exact Q8 <| ⟨k+1,by omega,by omega,Qa (Qb rfl rfl) (.keep (by rw [mix_t (k:=k) (decide_eq_true h48) (by omega)]; rfl) rfl (.nil)) (fun i h=>by cases h)⟩
   ·skip
    refine gR 5 rfl ?_
    first | refine Qg rfl rfl rfl (by omega) ?_ | refine QH rfl rfl rfl rfl ?_
    refine gR 2 rfl ?_
    exact Q8 <| ⟨k+1,by omega,by omega,Qa (Qb rfl rfl) (.keep (by rw [mix_f (k:=k) (fun q=>h53 (by have:=q.2; omega))]; rfl) rfl (.nil)) (fun i h=>by cases h)⟩
  ·skip
   refine gR 10 rfl ?_
   first | refine Qg rfl rfl rfl (by omega) ?_ | refine QH rfl rfl rfl rfl ?_
   refine gR 2 rfl ?_
   exact Q8 <| ⟨k+1,by omega,by omega,Qa (Qb rfl rfl) (.keep (by rw [mix_f (k:=k) (fun q=>h48 (of_decide_eq_true q.1))]; rfl) rfl (.nil)) (fun i h=>by cases h)⟩
 ·first | replace h42:=of_decide_eq_false h42 | skip
  refine gK 2 rfl ?_
  obtain rfl:k=ls.length:=by omega
  have hmx:=mix_ok (s:=s) hl hb ls.length
  have hmn:=mix_len (s:=s) (ls:=ls) (bs:=bs) ls.length
  have hse:=mix_sel (s:=s) (ls:=ls) (bs:=bs) ls.length ls.length
  generalize mixS s ls bs ls.length=mx at hmx hmn hse ⊢
  have hcnt:=some_cnt s hl.n.2
  have hw:=some_ix s hl.n.2
  generalize XR s ls.length=w at hse hcnt hw ⊢
  have hwn:=hw.n
  have hha:=hidA_len (w:=w) hl.n.2
  have hsh:=show_ok hl hw
  have hsh2:ShOK (w.map (Jj ls)) ((X0 ls.length w).map (JH mx)):=by
   have:=show_ok hmx (w:=w) (by rw [hmn]; exact hw)
   rwa [hse,hmn] at this
  have hf1:=fm_show hl hw
  have hf2:=fm_show hmx (w:=w) (by rw [hmn]; exact hw)
  rw [hse,hmn] at hf2
  refine gI 3 rfl (cN rfl rfl (vc22 ls (by omega) hl.ok w (by omega)) ?_)
  rw [shG_0 (show_E hl hw),show_E hl hw]
  refine gR 11 rfl (Qx [38] rfl rfl (vc22 mx (by omega) hmx.ok w (by omega)) (.cons (QL (f:=cLf) (xs:=mx) (by simp) rfl hmn) (.cons (Qd rfl) (.nil))) rfl ?_)
  rw [shG_0 (show_E hmx (w:=w) (by rw [hmn]; exact hw)),show_E hmx (w:=w) (by rw [hmn]; exact hw),show showS mx w=⟨ls.length,(w.map (Jj ls)),((X0 ls.length w).map (JH mx))⟩ from by unfold showS; rw [hmn,hse]]
  refine gR 11 rfl (Xd rfl rfl rfl rfl (fun h=>h rfl) (gR 2 rfl (Xd rfl rfl rfl rfl (fun h=>h rfl) (gR 6 rfl (cN rfl rfl (vc18 (w.map (Jj ls)) (w.map (Jj ls)) (fun x hx=>(hsh.ok x hx).b) (fun x hx=>(hsh.ok x hx).b) (by rw [List.length_map]; omega)) ?_)))))
  rw [decide_eq_true rfl]
  refine gR 5 rfl (Qh rfl rfl (gR 2 rfl (Qh rfl rfl (gR 0 rfl (Xd rfl rfl rfl rfl (by simp [showS]) (gR 4 rfl (Qh rfl rfl (gR 1 rfl (Qh rfl rfl (gR 1 rfl (Qh rfl rfl ?_)))))))))))
  refine gR 0 rfl (rs_sub rfl rfl rfl (by omega) (gR 0 rfl (Xd rfl rfl rfl rfl (by simp only [showS,List.length_map]; omega) (gR 9 rfl (cN rfl rfl (vc29 (ls.length:Int) (w.map (Jj ls)) ((X0 ls.length w).map (JH ls)) hsh (ls.length:Int) (w.map (Jj ls)) ((X0 ls.length w).map (JH mx)) hsh2) ?_)))))
  rw [change_mix hf1 hf2]
  refine gR 0 rfl (rs_eql rfl rfl rfl (gR 4 rfl (cN rfl rfl (vc34 ((X0 ls.length w).map (JH ls)) ((X0 ls.length w).map (JH mx)) (fun d hd=>(hsh.b d hd).1) (fun d hd=>(hsh2.b d hd).1) (by rw [List.length_map]; omega)) (gR 0 rfl (rs_bne_f rfl rfl rfl (show decide ((if ((X0 ls.length w).map (JH ls))=((X0 ls.length w).map (JH mx)) then (0:Int) else 54)=0)=decide (((X0 ls.length w).map (JH ls))=((X0 ls.length w).map (JH mx))) from by by_cases e:((X0 ls.length w).map (JH ls))=((X0 ls.length w).map (JH mx)) <;> simp [e]) (gR 0 rfl (QJ (by kernel_rfl) (gP 4 rfl (rs_slarr_r (els:=[[ints l0],[ints l1]]) rfl rfl rfl rfl (Nat.le_refl _) (by simp) rfl (gR 0 rfl (Q1 [] rfl rfl (vc9 l0 l1 hl0 hl1) (.cons (Qd rfl) (.nil)) (.nil) rfl rfl rfl ?_)))))))))))
  refine gR 4 rfl ?_
  have hg:=partS_ok l0 l1
  generalize partS l0 l1=p at hg ⊢
  have hgn:=hg.n
  have hC:∀ c∈(cs.take (min cs.length 3)).map (J8 p),CutOK c:=fun c hc=>by
   obtain ⟨L,_,rfl⟩:=List.mem_map.1 hc
   exact cut_ok p L hg
  have hCn:((cs.take (min cs.length 3)).map (J8 p)).length<=3:=by rw [List.length_map,List.length_take]; omega
  refine gI 3 rfl (cN rfl rfl (vc36 p (by omega)) (gR 2 rfl (Qh rfl rfl (gR 0 rfl (rs_mn rfl rfl rfl rfl (gR 0 rfl (rs_slc_r rfl rfl rfl rfl rfl (by decide) (by omega) (by simp; omega) (sl_3 cs) (gR 1 rfl (Q1 [] rfl rfl (vc12 (cs.take (min cs.length 3)) (by rw [List.length_take]; omega) (fun L hL=>hcs L (List.mem_of_mem_take hL)) p hg) (.cons (Qd rfl) (.cons (Qd rfl) (.nil))) (.nil) rfl rfl rfl (gR 0 rfl (Q1 [] rfl rfl (vc35 p hg ((cs.take (min cs.length 3)).map (J8 p)) hC hCn) (.cons (Qd rfl) (.cons (Qd rfl) (.cons (Qd rfl) (.cons (hv_nils) (.nil))))) (.nil) rfl rfl rfl ?_)))))))))))
  refine gR 6 rfl (QJ (by kernel_rfl) (gP 2 rfl ?_))
  generalize (cs.take (min cs.length 3)).map (J8 p)=C at hC hCn ⊢
  refine gI 2 rfl (Ja rfl rfl rfl (gR 1 rfl (Qe rfl (fun h136=>?_) (fun h136=>?_))))
  ·first | replace h136:=of_decide_eq_true h136 | skip
   refine gK 5 rfl (Js rfl rfl rfl rfl (app_9 hg hC hCn h136) (gR 4 rfl ?_))
   exact Qk <| Qc rfl rfl rfl (.inr rfl)
  ·first | replace h136:=of_decide_eq_false h136 | skip
   refine gK 2 rfl ?_
   have hap:=app_ok hg hC hCn (by omega)
   have hLl:=lea_len (s:=SEC) hap.1 (by decide)
   have hLa:=fun k hk=>lea_at (s:=SEC) hap.1 (by decide) (k:=k) hk
   have hfl:=fit_len hap.1
   refine gI 3 rfl (cN rfl rfl (vc16 p hg.ok (appS p C).1 hap.2 SEC sec_ok) (gR 4 rfl ?_))
   generalize hLV:Xh p (appS p C).1 SEC=LV at hLl hLa ⊢
   generalize (appS p C).1=X at hLa hfl ⊢
   refine gI 2 rfl (Qh rfl rfl (gR 2 rfl (Qh rfl rfl (gR 0 rfl (Xd rfl rfl rfl rfl (fun h=>h (by omega)) (gR 3 rfl (Qh rfl rfl (gR 2 rfl (Qh rfl rfl (gR 0 rfl (Xd rfl rfl rfl rfl (fun h=>h (by omega)) ?_)))))))))))
   refine gR 4 rfl (Qh rfl rfl (gR 2 rfl (Qh rfl rfl (gR 0 rfl (Xd rfl rfl rfl rfl (fun h=>h (by omega)) (gR 8 rfl (Qh rfl rfl (gR 3 rfl ?_))))))))
   refine Qr (α:=Nat) (fun k=>LV.length-k) (fun k=>[(9,.bool true),(19,.ptr 19 0 0),(20,.ptr 20 0 0),(169,.rs 5 (LV.map cLf)),(170,iv (LV.length:Int)),(171,iv (((k):Nat):Int))]) (fun k=>[(19,.cells 31 3 [cPa p] true),(20,.cells 35 3 [cPc X] true)]) (fun k=>k<=LV.length) 0 (by omega)
    (Qa (Qb rfl rfl) (.keep (rfl) rfl (.keep (rfl) rfl (.nil))) (fun i h=>by cases h)) ?_
   intro k hk
   refine gT 5 rfl (Qe rfl (fun h172=>?_) (fun h172=>?_))
   ·first | replace h172:=of_decide_eq_true h172 | skip
    refine gK 6 rfl (Qp (f:=cLf) (y:=Je p X SEC k) rfl rfl rfl (by omega) (hLa k (by omega)) (gR 0 rfl (QG (cs:=cLf (Je p X SEC k)) rfl rfl (nL rfl) rfl (gR 9 rfl (Xd rfl rfl rfl rfl (fun h=>h rfl) (gR 6 rfl (Qp (f:=civ) (xs:=p.want) (y:=p.want.getD k 0) rfl rfl rfl (by omega) (w_at (by omega)) (gR 1 rfl (Xd rfl rfl rfl rfl (fun h=>h rfl) (gR 7 rfl (Qp (f:=cB) (xs:=X.sure) (y:=X.sure.getD k false) rfl rfl rfl (by omega) (b_at (by omega)) ?_)))))))))))
    refine gR 1 rfl (rs_bne_f rfl rfl rfl rfl (gR 7 rfl (Qp (f:=cB) (xs:=X.touched) (y:=X.touched.getD k false) rfl rfl rfl (by omega) (b_at (by omega)) (gR 1 rfl (rs_bne_f rfl rfl rfl rfl (gR 3 rfl (cN rfl rfl (vc38 (k:Int) (show I64 (k:Int) from ⟨by omega,by omega⟩)) (gR 2 rfl (cN rfl rfl (vc37 SEC (XK k) sec_ok ⟨vint_8 k,Nat.le_trans (Xv k) (by decide)⟩ (by decide)) (gR 2 rfl (QJ (by kernel_rfl) ?_)))))))))))
    refine gP 3 rfl ?_
    first | refine Qg rfl rfl rfl (by omega) ?_ | refine QH rfl rfl rfl rfl ?_
    refine gR 2 rfl ?_
    exact Q8 <| ⟨k+1,by omega,by omega,Qa (Qb rfl rfl) (.keep (rfl) rfl (.keep (rfl) rfl (.nil))) (fun i h=>by cases h)⟩
   ·first | replace h172:=of_decide_eq_false h172 | skip
    refine gK 7 rfl ?_
    exact Qk <| Qc rfl rfl rfl (.inr rfl)
end Go.Proofs.YthfhaoogcpfboaaGreat
namespace Go.Proofs.YthfhaoogcpfboaaGreat
open Go.RowKit Go.WideShapes Go.ChangeShapes Go.ChangeAt
set_option maxRecDepth 100000
theorem own_knob:ownKnob Tryz.prog.godebug=none:=by kernel_rfl
theorem laid_out:laidOutB Tryz.prog=true:=by kernel_rfl
theorem rd_i {H:Type} (d:DataW H) (h:Gd (.int .i64) d):∃ n:Int,True/\avD (.int .i64) d=ci n:=by
 obtain ⟨n,_,e⟩:=rd_int d h
 exact ⟨n,trivial,e⟩
end Go.Proofs.YthfhaoogcpfboaaGreat
namespace Go.Proofs.YthfhaoogcpfboaaGreat
open Go.RowKit Go.WideShapes Go.ChangeShapes Go.ChangeAt
set_option maxRecDepth 100000
theorem rd_l {H:Type} (d:DataW H) (h:Gd (.sl 1 (.int .i64)) d):∃ L:List Int,L.length<=4611686018427387904/\avD (.sl 1 (.int .i64)) d=cLi L:=by
 obtain ⟨xs,⟨h1,_⟩,e⟩:=rd_sl _ ci rd_i d h
 exact ⟨xs,Nat.le_trans h1 (by decide),e⟩
theorem rd_ll {H:Type} (d:DataW H) (h:Gd (.sl 1 (.sl 1 (.int .i64))) d):∃ cs:List (List Int),(cs.length<=4611686018427387904/\∀ L∈cs,L.length<=4611686018427387904)/\avD (.sl 1 (.sl 1 (.int .i64))) d=[.rs 1 (cs.map cLi)]:=by
 obtain ⟨xs,⟨h1,h2⟩,e⟩:=rd_sl _ cLi rd_l d h
 exact ⟨xs,⟨Nat.le_trans h1 (by decide),h2⟩,e⟩
theorem rd_2 {H:Type} (d:DataW H) (h:Gd (.arr 2 (.sl 1 (.int .i64))) d):∃ a b:List Int,(a.length<=4611686018427387904/\b.length<=4611686018427387904)/\argA (.arr 2 (.sl 1 (.int .i64))) d = .agg [ints a,ints b]:=by
 obtain ⟨q,⟨hq,hr⟩,e⟩:=rd_arr _ cLi rd_l d h
 match q,hq with
 | [a,b],_=>exact ⟨a,b,⟨hr a (by simp),hr b (by simp)⟩,by simp only [argA]; rw [e]; rfl⟩
end Go.Proofs.YthfhaoogcpfboaaGreat
namespace Go.Proofs.YthfhaoogcpfboaaGreat
open Go.RowKit Go.WideShapes Go.ChangeShapes Go.ChangeAt
set_option maxRecDepth 100000
abbrev shs7:List Sh:=[.arr 2 (.sl 1 (.int .i64)),.int .i64,.arr 2 (.sl 1 (.int .i64)),.sl 1 (.sl 1 (.int .i64))]
theorem lifted7 (os:Os) (started:os.Started) (H:Type) (enc:TypeId×Value->H) :
  ReturnsInHanded {} Tryz.checked os 7 .any (Rows.revealHidesSpec.pre6 enc Tryz.prog Tryz.f7 Rows.revealHidesRow.domain false) (Rows.revealHidesSpec.post enc Tryz.prog Tryz.f7 false true false false):=by
 refine law_row (C:=Tryz.checked) own_knob started (by kernel_rfl) Tryz.func7 laid_out rfl (tb:=4) rfl Tryz.underlying4 shs7 (by kernel_rfl) (fun ds h=>?_)
  (ChangeSpec.witness6 (enc:=enc) (C:=Tryz.checked) false ⟨#[],#[.agg #[.slice none 0 0,.slice none 0 0],.int .i64 0,.agg #[.slice none 0 0,.slice none 0 0],.slice none 0 0],[]⟩ 8 (by kernel_rfl) (by kernel_rfl) (by kernel_rfl) (by kernel_rfl)) fun ds hg=>⟨false,?_⟩
 ·match ds,h with
  | [_,_,_,_],_=>rfl
 ·simp only [shs7,GdFs] at hg
  obtain ⟨d0,_,rfl,g0,d1,_,rfl,g1,d2,_,rfl,g2,d3,_,rfl,g3,rfl⟩:=hg
  obtain ⟨n0,n1,⟨hn0,hn1⟩,e0⟩:=rd_2 d0 g0
  obtain ⟨s,_,e1⟩:=rd_i d1 g1
  obtain ⟨l0,l1,⟨hl0,hl1⟩,e2⟩:=rd_2 d2 g2
  obtain ⟨cs,⟨hcsn,hcss⟩,e3⟩:=rd_ll d3 g3
  have e:argAs shs7 [d0,d1,d2,d3]=[.agg [ints n0,ints n1],iv s,.agg [ints l0,ints l1],.rs 1 (cs.map cLi)]:=by
   simp only [argAs,shs7]
   rw [e0]
   rw [e2]
   simp only [argA]
   rw [e1,e3]
   rfl
  rw [e]
  exact vc7 n0 n1 hn0 hn1 s l0 l1 hl0 hl1 cs hcsn hcss
theorem over7:Rows.revealHidesRow.holds Tryz.pinned (OpenSpec.ofChange Rows.revealHidesSpec) :=
 OpenClaim.holds_of_wide 7 Tryz.f7 rfl rfl rfl rfl rfl rfl rfl ⟨rfl,rfl,rfl,rfl,rfl⟩ rfl rfl rfl rfl rfl (by kernel_rfl) Tryz.func7 (by kernel_rfl)
  (of_decide_eq_true (by kernel_rfl)) (by unfold Func.isWrapper; rw [if_neg (of_decide_eq_false (by kernel_rfl))]; exact ⟨rfl,rfl⟩)
  (fun os started H enc _=>lifted7 os started H enc)
theorem revealHides_holds:Rows.RevealHidesSaid:=over7
#print axioms revealHides_holds
end Go.Proofs.YthfhaoogcpfboaaGreat
