/-
  Parts of the proof: VO VP VQ HU HV HW HS E17 HX HP JW HQ HY HZ ZC ZD ZE.
-/
import Derived.Test.YthmbjgnjfjjibaaGreatDoorK5
import Derived.Shelf.Spec.SlicesGrow
import Derived.Test.YthmbjgnjfjjibaaGreatDoorProg
set_option linter.unusedVariables false
set_option linter.unusedSimpArgs false
namespace Go.Proofs.YthmbjgnjfjjibaaGreatDoor
open Go.RowKit
set_option maxRecDepth 100000
theorem innS_len (r:List Pl) (p q:Pl):∀ (t:List Pl) (l:List Pt),(innS r p q l t).length<=l.length+t.length
 | [],l=>Nat.le_refl _
 | s::t,l=>by
  have h1:=innS_len r p q t (JX r l p q s)
  have h2:=accS_len r l p q s
  show (innS r p q (JX r l p q s) t).length<=_
  rw [List.length_cons]; omega
theorem midS_len (r:List Pl) (p:Pl) (N:Nat):∀ (t:List Pl) (l:List Pt),t.length<=N->(midS r p l t).length<=l.length+t.length*N
 | [],l,_=>Nat.le_add_right _ _
 | q::t,l,h=>by
  have h1:=midS_len r p N t (innS r p q l t) (by rw [List.length_cons] at h; omega)
  have h2:=innS_len r p q t l
  show (midS r p (innS r p q l t) t).length<=_
  rw [List.length_cons] at h ⊢
  rw [Nat.succ_mul]; omega
theorem topS_len (r:List Pl) (N:Nat):∀ (t:List Pl) (l:List Pt),t.length<=N->(topS r l t).length<=l.length+t.length*(N*N)
 | [],l,_=>Nat.le_add_right _ _
 | p::t,l,h=>by
  have h1:=topS_len r N t (midS r p l t) (by rw [List.length_cons] at h; omega)
  have h2:=midS_len r p N t l (by rw [List.length_cons] at h; omega)
  have h3:t.length*N<=N*N:=Nat.mul_le_mul_right _ (by rw [List.length_cons] at h; omega)
  show (topS r (midS r p l t) t).length<=_
  rw [List.length_cons,Nat.succ_mul]; omega
theorem corn_len {r:List Pl} (h:r.length<=110):(cornS r).length<=1331000:=by
 have h1:=topS_len r 110 r [] h
 unfold cornS
 simp only [List.length_nil] at h1
 omega
def nonS (l:List Pt) (p:Pl):Bool := !l.any (inB p)
def fullS (r:List Pl):Bool := !r.any (nonS (cornS r))
def mcv161:MC:=(sq [oN 1 (.box 231 1 0) [],oN 2 (.mv (.c .nils)) []] (sq [oN 3 (.alloc 269 1 [.nils]) []] (sq [oN 8 .mkmap [],oN 4 (.alloc 311 1 [.nilm]) [],oS 1 4 8 [1,0,0,1]] (.seq (sq [oD 9 1 1 [],oQ 10 235 [9] [0]] (.block 0 (.rfunc 10 [11] (rg [oN 5 (.alloc 315 12 (iz 12)) [],oS 12 5 11 [0,0]]) (.block 1 (sq [oL 13 12 5 [],oQ 14 236 [13] [0],oM 12 14 [1],oN 15 (.ext 12 0) [2],oN 16 (.ext 12 1) [2],oN 6 (.alloc 114 4 (iz 4)) [],oS 4 6 15 [5,3,1,0,1,2,3,5],oM 7 16 (4::6::up 7)] (sq [oM 17 7 [],oM 18 17 [0],pD 19 1 4 18 true [1],oG 20 (.ld true 4 6) 18 true [1],oG 21 (.mhas 4 19 20) 18 true [2,3,1],oG 22 (.un .not 21) 18 true [4,1],oN 23 (.pick 18 22 (.c (.bool false))) [1,5],oM 24 23 [6,1],pD 25 1 1 24 true [7],oG 26 (.ld true 4 6) 24 true [7],oG 27 (.call 40 [25,26]) 24 true [8,9,7,7],oN 28 (.pick 24 27 (.c (.bool false))) [7,10]] (.cond 28 (sq [oD 29 1 4 [],oL 30 4 6 [],⟨none,(.mapadd 4 29 30 (.c (.bool true))),none,[0,1,0,1]⟩] (rg [oD 31 1 3 [],oL 32 4 6 [],oN 33 (.bslice 114 4 (iz 4) 1 [(0,32)]) [1],oN 34 (.app 114 4 32 (iz 4) 31 33) [0,2],oS 1 3 34 (3::3::up 4)])) .skip))))))) (sq [oD 35 1 3 [],oM 2 35 [0,0]] .ret)))))
theorem mcOkv161:okM Tryz.prog Tryz.f194 36=some mcv161:=by kernel_rfl
theorem vc161 (r:List Pl) (hr:r.length<=110) (hok:okTop r=true):FC Tryz.prog 194 [.rs 4 (r.map cPl)] [] (.rs 4 ((cornS r).map cPt)) [] false:=by
 refine Qh (nt:=36) Tryz.func194 rfl rfl mcOkv161 (nL rfl) ?_
 delta mcv161
 refine gA 11 rfl (rs_mkmap rfl rfl (gR 7 rfl (clO rfl (vc185 r) rfl (gR 2 rfl (QC (F0:=[(10,.fn (.func 265) [.rp [.rs 4 (r.map cPl)]]),(1,.rp [.rs 4 (r.map cPl)]),(3,.ptr 1003 0 0),(4,.ptr 1004 0 0)]) (H0:=[(1003,.cells 269 1 [[.sl 901 0 (([]:List Pt)).length]] false),(901,.cells 114 4 ((([]:List Pt)).map cPt) true),(1004,.cells 311 1 [[.mp 1008]] false),(1008,.mset ((([]:List Pt)).map ptK))]) (Weak.trans (F1:=[(10,.fn (.func 265) [.rp [.rs 4 (r.map cPl)]]),(1,.rp [.rs 4 (r.map cPl)]),(3,.ptr 3 0 0),(4,.ptr 4 0 0)]) (H1:=[(3,.cells 269 1 [[.nils]] true),(4,.cells 311 1 [[.mp 8]] false),(8,.mset [])]) (Qf (.cs (.cons rfl (XJ rfl rfl (.inl rfl)) (.cs (.cs (.nil))))) (kS rfl rfl) (fun i h=>by cases h)) (Weak.trans (F1:=[(10,.fn (.func 265) [.rp [.rs 4 (r.map cPl)]]),(1,.rp [.rs 4 (r.map cPl)]),(3,.ptr 3 0 0),(4,.ptr 4 0 0)]) (H1:=[(3,.cells 269 1 [[.nils]] true),(4,.cells 311 1 [[.mp 1008]] false),(1008,.mset [])]) (Weak.trans (F1:=[(10,.fn (.func 265) [.rp [.rs 4 (r.map cPl)]]),(1,.rp [.rs 4 (r.map cPl)]),(3,.ptr 3 0 0),(4,.ptr 4 0 0)]) (Q0 (i:=8) (i':=1008) (k:=4) rfl rfl (.cons rfl (.same _) (.cons rfl (.same _) (.cons rfl (.same _) (.cons rfl (.same _) (.nil))))) (by decide) rfl .mp) (wkS rfl)) (Weak.trans (F1:=[(10,.fn (.func 265) [.rp [.rs 4 (r.map cPl)]]),(1,.rp [.rs 4 (r.map cPl)]),(3,.ptr 1003 0 0),(4,.ptr 1004 0 0)]) (H1:=[(1003,.cells 269 1 [[.nils]] true),(1004,.cells 311 1 [[.mp 1008]] false),(1008,.mset [])]) (Weak.trans (F1:=[(10,.fn (.func 265) [.rp [.rs 4 (r.map cPl)]]),(1,.rp [.rs 4 (r.map cPl)]),(3,.ptr 1003 0 0),(4,.ptr 4 0 0)]) (H1:=[(1003,.cells 269 1 [[.nils]] true),(4,.cells 311 1 [[.mp 1008]] false),(1008,.mset [])]) (wR 3 1003 (Qk rfl rfl) (kS rfl rfl) rfl) (wR 4 1004 (Qk rfl rfl) (kS rfl rfl) rfl)) (Weak.trans (F1:=[(10,.fn (.func 265) [.rp [.rs 4 (r.map cPl)]]),(1,.rp [.rs 4 (r.map cPl)]),(3,.ptr 1003 0 0),(4,.ptr 1004 0 0)]) (weak_seed (i:=901) (k:=1003) (e:=269) (z:=1) (e2:=114) (z2:=4) (fl:=true) (fl2:=true) rfl rfl) (wkS rfl))))) (aw_rfunc 900 [(1003,.cells 269 1 [[.sl 901 0 (([]:List Pt)).length]] false),(901,.cells 114 4 ((([]:List Pt)).map cPt) true),(1004,.cells 311 1 [[.mp 1008]] false),(1008,.mset ((([]:List Pt)).map ptK))] [(1003,.cells 269 1 [[.sl 903 0 (cornS r).length]] false),(903,.cells 114 4 ((cornS r).map cPt) true),(1004,.cells 311 1 [[.mp 1008]] false),(1008,.mset ((cornS r).map ptK)),(901,.dead)] (.inl ⟨rfl,rfl⟩) rfl (by kernel_rfl) rfl rfl rfl (.cons rfl (.cons rfl (.cons rfl (.cons rfl (.nil))))) rfl rfl rfl rfl (fun r0 hrec=>⟨r0,(by rw [hrec.state]; intro h; cases h),hrec.pending,vc208 r hr hok r0 hrec⟩) (gP 6 rfl ?_)))))))
 exact Q5 <| Xg rfl (rc_frz (f:=cPt) (xs:=cornS r) rfl rfl rfl (fun _=>rfl)) .nil
def mcv163:MC:=(sq [oN 2 (.box 129 4 0) [],oN 3 (.mv (.c (.bool false))) []] (sq [oD 4 1 1 [],oN 5 (.mkfn (.func 198) [2]) [],oQ 6 197 [4,5] [0,1],oN 7 (.un .not 6) [2],oM 3 7 (3::2::up 4)] .ret))
theorem mcOkv163:okM Tryz.prog Tryz.f196 8=some mcv163:=by kernel_rfl
theorem vc163 (l:List Pt) (hl:l.length<=2000000) (p:Pl):FC Tryz.prog 196 [.agg (cPl p),.rp [.rs 4 (l.map cPt)]] [] (.bool (nonS l p)) [] false:=by
 refine Qh (nt:=8) Tryz.func196 rfl rfl mcOkv163 (nL rfl) ?_
 delta mcv163
 refine gA 6 rfl (QC (F0:=[(1,.rp [.rs 4 (l.map cPt)]),(2,.rp (cPl p))]) (H0:=[]) (Qf (.cs (.cons rfl (XJ rfl rfl (.inl rfl)) (.nil))) (.nil) (fun i h=>by cases h)) (gK 3 rfl (cN rfl rfl (vcC_ins p l (by omega)) (gR 4 rfl ?_))))
 exact rQ
def mcv188:MC:=(sq [oN 4 (.mv (cI 0)) []] (.seq (sq [oM 6 0 [],oE 7 6 [0],oN 8 (.mv (cI 0)) []] (.block 0 (.loop (sq [oB 9 .lss 8 7 []] (.seq (.cond 9 .skip (.exit 0)) (.seq (.block 1 (sq [oM 10 8 [],oM 5 10 [0,0]] (sq [oM 11 1 [],oM 12 0 [],oM 13 5 [],oX 14 4 12 13 [1,2],oL 15 4 14 [3],oN 16 (.callv 11 [15]) [0,4]] (.cond 16 (sq [oM 17 5 [],oM 4 17 [0,0]] .ret) .skip)))) (rg [oB 18 .add 8 (cI 1) [],oM 8 18 [0]]))))))) (sq [oN 4 (.mv (cI (-1))) []] .ret)))
theorem mcOkv188:okM Tryz.prog Tryz.f237 19=some mcv188:=by kernel_rfl
theorem vcI_non (l:List Pt) (hl:l.length<=2000000) (xs:List Pl) (hxn:xs.length<=4611686018427387904):FC Tryz.prog 237 [.rs 4 (xs.map cPl),(.fn (.func 196) [.rp [.rs 4 (l.map cPt)]])] [] (.int .i64 (idxS (nonS l) xs 0)) [] false:=by
 refine Qh (nt:=19) Tryz.func237 rfl rfl mcOkv188 (nL rfl) ?_
 delta mcv188
 refine gA 8 rfl (Q1 rfl rfl (gR 3 rfl ?_))
 refine Xp (α:=Nat) [0,1,6,7] [] (fun k=>xs.length-k) (fun k=>[(8,iv (((k):Nat):Int))]) (fun k=>[]) (fun k=>k<=xs.length/\idxS (nonS l) (xs.drop k) k=idxS (nonS l) xs 0) 0 (⟨by omega,rfl⟩) rfl (wkS rfl) ?_
 rintro k ⟨hk,hinv⟩
 refine gT 5 rfl (Qc rfl (fun h9=>?_) (fun h9=>?_))
 ·refine gK 13 rfl ?_
  obtain ⟨x,hxk,hxm⟩:=Q8 (L:=xs) (k:=k) (by omega)
  rw [idxS_at hxk] at hinv
  refine QH (f:=cPl) (y:=x) rfl rfl rfl (by omega) hxk (gR 0 rfl (Ja (cs:=cPl x) rfl rfl (nL rfl) rfl (gR 0 rfl (rs_callvo [] rfl rfl (by kernel_rfl) rfl (fc_up (vc163 l hl x)) (.cons (Ql rfl) (.cons (Ql rfl) (.nil))) .nil rfl rfl rfl ?_))))
  cases h16:(nonS l) x
  ·skip
   refine gR 4 rfl (Qm rfl rfl rfl (by omega) (gR 2 rfl ?_))
   rw [h16] at hinv
   exact X9 <| ⟨k+1,⟨by omega,hinv⟩,by omega,wkS rfl⟩
  ·skip
   refine gR 8 rfl ?_
   rw [h16] at hinv
   rw [← hinv]
   exact rQ
 ·refine gK 6 rfl ?_
  rw [idxS_end (by omega)] at hinv
  rw [← hinv]
  exact rQ
def mcv162:MC:=(sq [oN 4 (.mv (.c (.bool false))) []] (sq [oM 5 0 [],oM 6 1 [],oQ 7 237 [5,6] [0,1],oB 8 .geq 7 (cI 0) [2],oM 4 8 (3::2::up 4)] .ret))
theorem mcOkv162:okM Tryz.prog Tryz.f195 9=some mcv162:=by kernel_rfl
theorem vcC_non (l:List Pt) (hl:l.length<=2000000) (xs:List Pl) (hxn:xs.length<=4611686018427387904):FC Tryz.prog 195 [.rs 4 (xs.map cPl),(.fn (.func 196) [.rp [.rs 4 (l.map cPt)]])] [] (.bool (xs.any (nonS l))) [] false:=by
 refine Qh (nt:=9) Tryz.func195 rfl rfl mcOkv162 (nL rfl) ?_
 delta mcv162
 refine gA 8 rfl (cN rfl rfl (vcI_non l hl xs hxn) (gR 0 rfl (rs_geq rfl rfl rfl (gR 3 rfl ?_))))
 rw [← idxS_cond]
 exact rQ
def mcv135:MC:=(sq [oN 2 (.mv (.c (.bool false))) []] (sq [oM 4 0 [],oQ 5 194 [4] [0],oN 3 (.alloc 269 1 [.nils]) [],oS 1 3 5 [2,1,1,0,1,2]] (sq [oM 6 0 [],oN 7 (.mkfn (.func 196) [3]) [],oQ 8 195 [6,7] [0,1],oN 9 (.un .not 8) [2],oM 2 9 (3::2::up 4)] .ret)))
theorem mcOkv135:okM Tryz.prog Tryz.f153 10=some mcv135:=by kernel_rfl
theorem vc135 (r:List Pl) (hr:r.length<=110) (hok:okTop r=true):FC Tryz.prog 153 [.rs 4 (r.map cPl)] [] (.bool (fullS r)) [] false:=by
 have hcl:=corn_len hr
 refine Qh (nt:=10) Tryz.func153 rfl rfl mcOkv135 (nL rfl) ?_
 delta mcv135
 refine gA 7 rfl (cN rfl rfl (vc161 r hr hok) (gR 4 rfl (QC (F0:=[(0,.rs 4 (r.map cPl)),(3,.rp [.rs 4 ((cornS r).map cPt)])]) (H0:=[]) (Qf (.cs (.cons rfl (XJ rfl rfl (.inl rfl)) (.nil))) (.nil) (fun i h=>by cases h)) (gK 3 rfl (cN rfl rfl (vcC_non (cornS r) (by omega) r (by omega)) (gR 4 rfl ?_))))))
 exact rQ
end Go.Proofs.YthmbjgnjfjjibaaGreatDoor
namespace Go.Proofs.YthmbjgnjfjjibaaGreatDoor
open Go.RowKit
set_option maxRecDepth 100000
set_option linter.unusedVariables false
open Go.Shelf Go.Lib
def renGr:Go.Shelf.Ren:={ f:=fun _=>234,t:=fun n=>if n=22 then 85 else if n=25 then 129 else n,g:=fun n=>n }
theorem laysGr:Lays8.n4 Tryz.prog renGr:=by
 constructor
 case f4=>exact ⟨Tryz.f234.name,by kernel_rfl,by kernel_rfl⟩
 all_goals first | kernel_rfl | (intro _; kernel_rfl)
theorem ty90:∃ i z,Tryz.prog.info? 129=some i/\i.zero=some z/\i.size=4/\i.bytes=32/\z.cells.size=4:=by
 have h:(match Tryz.prog.info? 129 with | some i=>(match i.zero with | some z=>decide (i.size=4/\i.bytes=32/\z.cells.size=4) | none=>false) | none=>false)=true:=by kernel_rfl
 split at h
 ·rename_i i hi
  split at h
  ·rename_i z hz
   have h:=of_decide_eq_true h
   exact ⟨i,z,hi,hz,h.1,h.2.1,h.2.2⟩
  ·cases h
 ·cases h
theorem vc184 (n:Nat) (hn:1<=n/\n<=1000):FC Tryz.prog 234 [.nils,iv (n:Int)] [] (.sl 1005 0 0) [(1005,.cells 129 4 [] true)] false:=fun w S ρ cargs hH hv=>by
 obtain ⟨i0,z0,hi,hz,h1,h2,h3⟩:=ty90
 have e:cargs = #[.slice none 0 0,.int .i64 (n:Int)]:=by
  obtain ⟨L⟩:=cargs
  have h1:=hv.1
  have hv0:=hv.2 0 _ rfl
  have hv1:=hv.2 1 _ rfl
  match L,h1,hv0,hv1 with
  | [x,y],_,hv0,hv1 =>
   have e0:x = .slice none 0 0:=VR.nils_inv hv0
   have e1:y = .int .i64 (n:Int):=VR.int_inv hv1
   rw [e0,e1]
 rw [e]
 have hb:(0+n)*i0.bytes<=140737488355328:=by rw [h2]; omega
 have hg:=Any8.slices_Grow_grow laysGr i0 z0 hi hz (by omega) none 0 0 n [] w (Nat.le_refl _) (by omega) hb (by omega) (by simp) (fun _=>rfl) (fun a h=>by cases h)
 refine hg.mono fun en w' ⟨he,hw⟩=>?_
 have hge:=grownCap_ge w (0+n) 0 129
 have hle:=grownCap_le_maxLen w (0+n) 0 129 (by unfold maxLen; omega)
 replace he:en = .returned (.slice (some ⟨w.heap.size,0,none⟩) 0 (grownCap w (0+n) 0 129)):=he
 replace hw:w'=w.drew.alloc (.cells (([]:List Value).toArray++Builtin.zeroCells z0.cells (0+n-0)++Builtin.zeroCells z0.cells (grownCap w (0+n) 0 129-(0+n))) 129):=hw
 generalize grownCap w (0+n) 0 129=G at he hw hge hle
 have hsz:(([]:List Value).toArray++Builtin.zeroCells z0.cells (0+n-0)++Builtin.zeroCells z0.cells (G-(0+n))).size=G*4:=by
  simp only [Array.size_append,size_zeroCells,h3,List.size_toArray,List.length_nil]; omega
 generalize (([]:List Value).toArray++Builtin.zeroCells z0.cells (0+n-0)++Builtin.zeroCells z0.cells (G-(0+n)))=C at hw hsz
 subst hw
 have hnew:(w.drew.alloc (.cells C 129)).heap[w.heap.size]?=some (.cells C 129 (0,0)):=heap_alloc_new w.drew _
 have hsize:(w.drew.alloc (.cells C 129)).heap.size=w.heap.size+1:=by show (w.heap.push _).size=_; simp
 have hget:∀ i,i≠1005->get ([(1005,.cells 129 4 [] true)]:Hp) i=none:=fun i hi=>by simp only [get]; rw [if_neg (Ne.symm hi)]
 refine ⟨_,fun _=>False,fun i=>if i=1005 then some (some w.heap.size,4,G) else none,he,.sl 1005 0 0 w.heap.size 4 G G (if_pos rfl) (by omega) (Nat.zero_le _),⟨fun b hb=>hb.elim,fun i hi=>?_,⟨fun i o _ ho=>?_,fun i j oi oj b z z' c c' _ _ hne hi hj=>?_⟩⟩,⟨rfl,rfl,rfl,by rw [hsize]; omega,fun k hk _=>Below.heap_alloc w.drew _ k hk⟩,fun b hb=>hb.elim,fun b hb=>?_,fun i hi=>absurd rfl hi,fun i hi=>absurd rfl hi⟩
 ·by_cases h:i=1005
  ·subst h; simp [get] at hi
  ·simp [h]
 ·by_cases h:i=1005
  ·subst h
   simp [get] at ho
   subst ho
   exact ⟨some w.heap.size,4,G,if_pos rfl,rfl,fun h=>h,hle,C,hnew,hsz,Nat.zero_le _,fun j el h=>by simp at h,fun j el o v h=>by simp at h⟩
  ·rw [hget i h] at ho; cases ho
 ·have h1:i=1005:=Decidable.byContradiction fun h=>by rw [hget i h] at hi; cases hi
  have h2:j=1005:=Decidable.byContradiction fun h=>by rw [hget j h] at hj; cases hj
  exact absurd (h1.trans h2.symm) hne
 ·obtain ⟨i,ob,z,cap,_,h1,_,h2⟩:=hb
  by_cases h:i=1005
  ·subst h; simp at h2; exact .inr (by omega)
  ·rw [hget i h] at h1; cases h1
abbrev cR (c:List Pl):List AV:=[.rs 4 (c.map cPl)]
theorem flat_succ {ls:List (List Pl)} {k:Nat} {c:List Pl} (h:ls[k]?=some c):(ls.take (k+1)).flatten=(ls.take k).flatten++c:=by rw [take_succ_at h]; simp
theorem flat_le {ls:List (List Pl)} (k:Nat):((ls.take k).flatten).length<=ls.flatten.length:=by
 have:ls.flatten=(ls.take k).flatten++(ls.drop k).flatten:=by rw [← List.flatten_append,List.take_append_drop]
 rw [this,List.length_append]; omega
theorem addNW2 {a b:Nat} (h:a+b<=1000000):W ((a:Int)+(b:Int))=((a+b:Nat):Int):=by rw [Xe (by omega)]; omega
def norms:List V3:=[⟨1,0,0⟩,⟨-1,0,0⟩,⟨0,1,0⟩,⟨0,-1,0⟩,⟨0,0,1⟩,⟨0,0,-1⟩]
def wsP (v:V3):Pl:=⟨v,24⟩
def ofS (ls:List (List Pl)):List Pl:=ls.flatten++norms.map wsP
theorem ws_succ {l:List Pl} {k:Nat} {v:V3} (h:norms[k]?=some v):l++(norms.take (k+1)).map wsP=(l++(norms.take k).map wsP)++[wsP v]:=by rw [take_succ_at h]; simp
def mcv160:MC:=(sq [oN 2 (.mv (.c .nils)) []] (sq [oN 3 (.mv (cI 0)) []] (.seq (sq [oM 9 0 [],oE 10 9 [0],oN 11 (.mv (cI 0)) []] (.block 0 (.loop (sq [oB 12 .lss 11 10 []] (.seq (.cond 12 .skip (.exit 0)) (.seq (.block 1 (sq [oX 13 1 9 11 [],oD 14 1 13 [0],oM 5 14 [1,0,1]] (sq [oM 15 3 [],oM 16 5 [],oE 17 16 [1],oB 18 .add 15 17 [0,2],oM 3 18 (3::up 4)] (sq [oM 19 3 [],oB 20 .lss 19 (cI 0) [0]] (.cond 20 (rg [oN 21 (.mkif 9 (.c (.str (strN [108,101,110,32,111,117,116,32,111,102,32,114,97,110,103,101])))) [],⟨none,.bot,none,[0]⟩]) .skip))))) (rg [oB 22 .add 11 (cI 1) [],oM 11 22 [0]]))))))) (sq [oM 23 3 [],oQ 24 234 [(.c .nils),23] [0],oM 6 24 [1,1,0,1]] (.seq (sq [oM 25 0 [],oE 26 25 [0],oN 27 (.mv (cI 0)) []] (.block 2 (.loop (sq [oB 28 .lss 27 26 []] (.seq (.cond 28 .skip (.exit 2)) (.seq (.block 3 (sq [oX 29 1 25 27 [],oD 30 1 29 [0],oM 8 30 [1,0,1]] (rg [oM 31 6 [],oM 32 8 [],oN 33 (.app 129 4 32 (iz 4) 31 32) [0,1],oM 6 33 [2,2,0,1,2]]))) (rg [oB 34 .add 27 (cI 1) [],oM 27 34 [0]]))))))) (sq [oM 35 6 [],oM 2 35 [0,0]] .ret))))))
theorem mcOkv160:okM Tryz.prog Tryz.f193 36=some mcv160:=by kernel_rfl
theorem vc160 (ls:List (List Pl)) (hn:1<=ls.flatten.length/\ls.flatten.length<=1000) (hl:ls.length<=100):FC Tryz.prog 193 [.rs 1 (ls.map cR)] [] (.sl 1005 0 ls.flatten.length) [(1005,.cells 129 4 (ls.flatten.map cPl) true)] false:=by
 refine Qh (nt:=36) Tryz.func193 rfl rfl mcOkv160 (nL rfl) ?_
 delta mcv160
 refine gA 12 rfl (Q1 rfl rfl (gR 3 rfl ?_))
 refine Xv (α:=Nat) (fun k=>ls.length-k) (fun k=>[(0,.rs 1 (ls.map cR)),(9,.rs 1 (ls.map cR)),(10,iv (ls.length:Int)),(11,iv (((k):Nat):Int)),(3,iv ((((ls.take (k)).flatten).length:Nat):Int))]) (fun k=>[]) (fun k=>k<=ls.length) 0 (by omega)
  (wkS rfl) ?_
 intro k hk
 refine gT 5 rfl (Qc rfl (fun h12=>?_) (fun h12=>?_))
 ·refine gK 5 rfl ?_
  obtain ⟨c,hck,hcm⟩:=Q8 (L:=ls) (k:=k) (by omega)
  have hfl:=flat_le (ls:=ls) (k+1)
  have hfs:((ls.take (k+1)).flatten).length=((ls.take k).flatten).length+c.length:=by rw [flat_succ hck,List.length_append]
  refine QH (f:=cR) (y:=c) rfl rfl rfl (by omega) hck (gR 7 rfl (Q1 rfl rfl (gR 0 rfl (Jf (c:=((((ls.take (k+1)).flatten).length:Nat):Int)) rfl rfl rfl (by rw [hfs]; exact addNW2 (by omega)) (gR 5 rfl (Xo rfl rfl rfl rfl (by omega) (gR 4 rfl (Qm rfl rfl rfl (by omega) (gR 2 rfl ?_)))))))))
  exact X9 <| ⟨k+1,by omega,by omega,wkS rfl⟩
 ·refine gK 2 rfl ?_
  obtain rfl:k=ls.length:=by omega
  have hfa:ls.take ls.length=ls:=List.take_of_length_le (Nat.le_refl _)
  refine gI 2 rfl ?_
  rw [hfa]
  refine cN rfl rfl (vc184 ls.flatten.length hn) (gR 6 rfl (Q1 rfl rfl (gR 3 rfl ?_)))
  refine Xv (α:=Nat) (fun k=>ls.length-k) (fun k=>[(25,.rs 1 (ls.map cR)),(26,iv (ls.length:Int)),(27,iv (((k):Nat):Int)),(6,.sl 1005 0 ((ls.take (k)).flatten).length)]) (fun k=>[(1005,.cells 129 4 (((ls.take (k)).flatten).map cPl) true)]) (fun k=>k<=ls.length) 0 (by omega)
   (wkS rfl) ?_
  intro k hk
  refine gT 5 rfl (Qc rfl (fun h28=>?_) (fun h28=>?_))
  ·refine gK 5 rfl ?_
   obtain ⟨c,hck,hcm⟩:=Q8 (L:=ls) (k:=k) (by omega)
   have hfl:=flat_le (ls:=ls) (k+1)
   have hfs:((ls.take (k+1)).flatten).length=((ls.take k).flatten).length+c.length:=by rw [flat_succ hck,List.length_append]
   refine QH (f:=cR) (y:=c) rfl rfl rfl (by omega) hck (gR 6 rfl (rs_app_mm (f:=cPl) (xs:=(ls.take k).flatten) (ys:=c) (m:=c.length) (rd:=[]) rfl rfl rfl rfl rfl rfl rfl (by simp) (fun _=>rfl) rfl rfl (by omega) (by omega) (fun _=>rfl) (gR 3 rfl (Qm rfl rfl rfl (by omega) (gR 2 rfl ?_)))))
   exact X9 <| ⟨k+1,by omega,by omega,by rw [hfs,flat_succ hck]; exact XR (i:=33) (i':=1005) (F1:=[(25,.rs 1 (ls.map cR)),(26,iv (ls.length:Int)),(27,iv (((k+1):Nat):Int)),(6,.sl 33 0 (((ls.take k).flatten).length+c.length))]) (H1:=[(33,.cells 129 4 (((ls.take k).flatten++c).map cPl) true)]) (Qk rfl rfl) (.keep rfl rfl .nil) nz rfl rfl (.cons rfl (.same _) (.cons rfl (.same _) (.cons rfl (.same _) (.cons rfl (.sl _ _) (.nil))))) (Qk rfl rfl) (.keep rfl rfl .nil) nz⟩
  ·refine gK 7 rfl ?_
   obtain rfl:k=ls.length:=by omega
   rw [List.take_of_length_le (Nat.le_refl _)]
   exact Q5 <| Xg rfl (Xq rfl (.inr rfl)) (.keep rfl rfl (noROE_map (fun _=>rfl) _) .nil)
def mcv134:MC:=(sq [oN 2 (.mv (.c .nils)) []] (sq [oM 6 0 [],oQ 7 193 [6] [0],oM 3 7 [1,1,0,1]] (.seq (sq [oN 8 (.build (iz 3) [(0,1,(cI 1))]) [],oN 9 (.build (iz 3) [(0,1,(cI (-1)))]) [],oN 10 (.build (iz 3) [(1,1,(cI 1))]) [],oN 11 (.build (iz 3) [(1,1,(cI (-1)))]) [],oN 12 (.build (iz 3) [(2,1,(cI 1))]) [],oN 13 (.build (iz 3) [(2,1,(cI (-1)))]) [],oN 14 (.bslice 32 3 (iz 3) 6 [(0,8),(1,9),(2,10),(3,11),(4,12),(5,13)]) (up 6),oE 15 14 [6],oN 16 (.mv (cI 0)) []] (.block 0 (.loop (sq [oB 17 .lss 16 15 []] (.seq (.cond 17 .skip (.exit 0)) (.seq (.block 1 (sq [oX 18 3 14 16 [],oL 19 3 18 [0],oN 5 (.alloc 32 3 (iz 3)) [],oS 3 5 19 [2,1,0,1,2]] (rg [oM 20 3 [],oL 21 3 5 [],oN 22 (.build (iz 4) [(0,3,21),(3,1,(cI 24))]) [1],oN 23 (.bslice 129 4 (iz 4) 1 [(0,22)]) [2],oN 24 (.app 129 4 32 (iz 4) 20 23) [0,3],oM 3 24 (4::4::up 5)]))) (rg [oB 25 .add 16 (cI 1) [],oM 16 25 [0]]))))))) (sq [oM 26 3 [],oM 2 26 [0,0]] .ret))))
theorem mcOkv134:okM Tryz.prog Tryz.f152 27=some mcv134:=by kernel_rfl
theorem vc134 (ls:List (List Pl)) (hn:1<=ls.flatten.length/\ls.flatten.length<=1000) (hl:ls.length<=100):FC Tryz.prog 152 [.rs 1 (ls.map cR)] [] (.rs 4 ((ofS ls).map cPl)) [] false:=by
 refine Qh (nt:=27) Tryz.func152 rfl rfl mcOkv134 (nL rfl) ?_
 delta mcv134
 refine gA 7 rfl (cN rfl rfl (vc160 ls hn hl) (gR 11 rfl (bM cV (norms) (by kernel_rfl) (gR 0 rfl (rs_len_s rfl rfl (gR 3 rfl ?_))))))
 refine Xv (α:=Nat) (fun k=>6-k) (fun k=>[(3,.sl 1005 0 (ls.flatten.length+(k))),(14,.rs 3 (norms.map cV)),(15,iv ((6:Nat):Int)),(16,iv (((k):Nat):Int))]) (fun k=>[(1005,.cells 129 4 ((ls.flatten++(norms.take (k)).map wsP).map cPl) true)]) (fun k=>k<=6) 0 (by omega)
  (Qf (.cs (.cons rfl (rc_frz (f:=cV) (xs:=norms) rfl rfl rfl (fun _=>rfl)) (.cs (.cs (.nil))))) (.keep (by simp [get]) rfl (.nil)) (fun i h=>by cases h)) ?_
 intro k hk
 refine gT 5 rfl (Qc rfl (fun h17=>?_) (fun h17=>?_))
 ·refine gK 5 rfl ?_
  obtain ⟨v,hvk,hvm⟩:=Q8 (L:=norms) (k:=k) (by show k<6; omega)
  refine QH (f:=cV) (y:=v) rfl rfl rfl (by omega) hvk (gR 0 rfl (Ja (cs:=cV v) rfl rfl (nL rfl) rfl (gR 7 rfl (bM cPl (([wsP v]:List Pl)) (by kernel_rfl) (gR 0 rfl (apM cPl (y:=wsP v) (by simp; rw [show norms.length=6 from rfl]; omega) (by omega) rfl (gR 3 rfl (Qm rfl rfl rfl (by omega) (gR 2 rfl ?_)))))))))
  exact X9 <| ⟨k+1,by omega,by omega,XR (i:=24) (i':=1005) (F1:=[(3,.sl 24 0 (ls.flatten.length+(k+1))),(14,.rs 3 (norms.map cV)),(15,iv ((6:Nat):Int)),(16,iv (((k+1):Nat):Int))]) (H1:=[(24,.cells 129 4 ((ls.flatten++(norms.take (k+1)).map wsP).map cPl) true)]) (Qk rfl rfl) (.keep (by rw [ws_succ hvk]; rfl) rfl (.nil)) (fun i h=>by cases h) rfl rfl (.cons rfl (.sl _ _) (.cons rfl (.same _) (.cons rfl (.same _) (.cons rfl (.same _) (.nil))))) (Qk rfl rfl) (.keep rfl rfl .nil) nz⟩
 ·refine gK 7 rfl ?_
  obtain rfl:k=6:=by omega
  exact Q5 <| Xg rfl (rc_frz (f:=cPl) (xs:=ofS ls) rfl rfl (by simp [ofS,norms]) (fun _=>rfl)) .nil
end Go.Proofs.YthmbjgnjfjjibaaGreatDoor
namespace Go.Proofs.YthmbjgnjfjjibaaGreatDoor
open Go.RowKit
set_option maxRecDepth 100000
theorem all_at {α:Type} {p:α->Bool} {l:List α} {k:Nat} {x:α} (h:l[k]?=some x):(l.drop k).all p=(p x&&(l.drop (k+1)).all p):=by rw [Jt h]; rfl
theorem withinS_at {m:Int} {l:List Int} {k:Nat} {x:Int} (h:l[k]?=some x):X6 m (l.drop k)=(decide (-m<=x/\x<=m)&&X6 m (l.drop (k+1))):=all_at h
def QD (p:Pl):Bool:=X6 4608 [p.n.x,p.n.y,p.n.z]&&decide ((gL [p.n.x,p.n.y,p.n.z]:Int)=1)&&X6 2097152 [p.b]
def badP (p:Pl):Bool := !QD p
def ckS (c:List Pl):Int:=if c.length>48 then 2 else if c.any badP=true then 12 else 0
def badC (c:List Pl):Bool:=decide (ckS c≠0)
def validS (ls:List (List Pl)):Bool := !ls.any badC
def cfullS (c:List Pl):Bool:=validS [c]&&fullS (ofS [c])
def apartS (a b:List Pl):Bool := !validS [a,b] || !fullS (ofS [a,b])
theorem within_bd {m:Int} {l:List Int} (h:X6 m l=true):∀ x∈l,-m<=x/\x<=m:=fun x hx=>of_decide_eq_true (List.all_eq_true.1 h x hx)
variable {A B:Int}
theorem XI {a b:Int} (ha : -A<=a/\a<=A) (hb : -B<=b/\b<=B) : -(A*B)<=a*b/\a*b<=A*B:=by
 have h1:(a*b).natAbs<=A.toNat*B.toNat:=by rw [Int.natAbs_mul]; exact Nat.mul_le_mul (by omega) (by omega)
 have h2:((A.toNat*B.toNat:Nat):Int)=A*B:=by rw [Int.natCast_mul,Int.toNat_of_nonneg (by omega),Int.toNat_of_nonneg (by omega)]
 omega
def VB (m:Int) (v:V3):Prop:=(-m<=v.x/\v.x<=m)/\(-m<=v.y/\v.y<=m)/\(-m<=v.z/\v.z<=m)
theorem crossW_b {a b:V3} (ha:VB 4608 a) (hb:VB 4608 b):VB 42467328 (Xb a b):=by
 obtain ⟨ax,ay,az⟩:=ha
 obtain ⟨bx,by_,bz⟩:=hb
 have e1:=XI ay bz; have e2:=XI az by_; have e3:=XI az bx; have e4:=XI ax bz; have e5:=XI ax by_; have e6:=XI ay bx
 simp only [Xb]
 rw [Xe (n:=a.y*b.z) (by omega),Xe (n:=a.z*b.y) (by omega),Xe (n:=a.z*b.x) (by omega),Xe (n:=a.x*b.z) (by omega),Xe (n:=a.x*b.y) (by omega),Xe (n:=a.y*b.x) (by omega),Xe (n:=a.y*b.z-a.z*b.y) (by omega),Xe (n:=a.z*b.x-a.x*b.z) (by omega),Xe (n:=a.x*b.y-a.y*b.x) (by omega)]
 refine ⟨?_,?_,?_⟩ <;> dsimp only <;> omega
theorem timesW_b {v:V3} {n:Int} (hv:VB 42467328 v) (hn : -2097152<=n/\n<=2097152):VB 89060441849856 (J9 v n):=by
 obtain ⟨ax,ay,az⟩:=hv
 have e1:=XI ax hn; have e2:=XI ay hn; have e3:=XI az hn
 simp only [J9]
 rw [Xe (n:=v.x*n) (by omega),Xe (n:=v.y*n) (by omega),Xe (n:=v.z*n) (by omega)]
 refine ⟨?_,?_,?_⟩ <;> dsimp only <;> omega
theorem addW_b {a b:V3} {C:Int} (ha:VB A a) (hb:VB B b) (h:A+B<=C:=by decide) (hC:C<=1000000000000000:=by decide):VB C (addW a b):=by
 obtain ⟨ax,ay,az⟩:=ha
 obtain ⟨bx,by_,bz⟩:=hb
 simp only [addW]
 rw [Xe (n:=a.x+b.x) (by omega),Xe (n:=a.y+b.y) (by omega),Xe (n:=a.z+b.z) (by omega)]
 refine ⟨?_,?_,?_⟩ <;> dsimp only <;> omega
theorem dotW_b {a b:V3} (ha:VB 4608 a) (hb:VB 42467328 b) : -1000000000000<=dotW a b/\dotW a b<=1000000000000:=by
 obtain ⟨ax,ay,az⟩:=ha
 obtain ⟨bx,by_,bz⟩:=hb
 have e1:=XI ax bx; have e2:=XI ay by_; have e3:=XI az bz
 unfold dotW
 rw [Xe (n:=a.x*b.x) (by omega),Xe (n:=a.y*b.y) (by omega),Xe (n:=a.z*b.z) (by omega),Xe (n:=a.x*b.x+a.y*b.y) (by omega),Xe (by omega)]
 omega
theorem valid_b {p:Pl} (h:QD p=true):VB 4608 p.n/\(-2097152<=p.b/\p.b<=2097152):=by
 simp only [QD,Bool.and_eq_true] at h
 have h1:=within_bd h.1.1
 exact ⟨⟨h1 _ (by simp),h1 _ (by simp),h1 _ (by simp)⟩,within_bd h.2 _ (by simp)⟩
variable {r:Pl}
theorem sum3_b {p q:Pl} (hp:QD p=true) (hq:QD q=true) (hr:QD r=true):VB 267181325549568 (XQ p q r)/\(-1000000000000<=wd3 p q r/\wd3 p q r<=1000000000000):=by
 obtain ⟨p1,p2⟩:=valid_b hp
 obtain ⟨q1,q2⟩:=valid_b hq
 obtain ⟨r1,r2⟩:=valid_b hr
 refine ⟨?_,dotW_b r1 (crossW_b p1 q1)⟩
 have z:VB 0 (⟨0,0,0⟩:V3):=⟨by decide,by decide,by decide⟩
 exact addW_b (A:=178120883699712) (addW_b (A:=89060441849856) (addW_b z (timesW_b (crossW_b q1 r1) p2)) (timesW_b (crossW_b r1 p1) q2)) (timesW_b (crossW_b p1 q1) r2)
theorem okT_valid {p q:Pl} (hp:QD p=true) (hq:QD q=true) (hr:QD r=true):okT p q r=true:=by
 obtain ⟨⟨h1,h2,h3⟩,h4⟩:=sum3_b hp hq hr
 refine List.all_eq_true.2 fun x hx=>decide_eq_true ?_
 simp only [List.mem_cons,List.not_mem_nil,or_false] at hx
 rcases hx with rfl | rfl | rfl | rfl <;> omega
theorem okMid_valid {p:Pl} (hp:QD p=true):∀ {t:List Pl},(∀ q∈t,QD q=true)->okMid p t=true
 | [],_=>rfl
 | q::t,h=>by
  simp only [okMid,Bool.and_eq_true]
  exact ⟨List.all_eq_true.2 fun s hs=>okT_valid hp (h q (List.mem_cons_self ..)) (h s (List.mem_cons_of_mem _ hs)),okMid_valid hp fun s hs=>h s (List.mem_cons_of_mem _ hs)⟩
theorem okTop_valid:∀ {r:List Pl},(∀ q∈r,QD q=true)->okTop r=true
 | [],_=>rfl
 | p::t,h=>by
  simp only [okTop,Bool.and_eq_true]
  exact ⟨okMid_valid (h p (List.mem_cons_self ..)) fun s hs=>h s (List.mem_cons_of_mem _ hs),okTop_valid fun s hs=>h s (List.mem_cons_of_mem _ hs)⟩
theorem ck_ok {c:List Pl} (h:badC c=false):c.length<=48/\∀ p∈c,QD p=true:=by
 have h:=of_decide_eq_false h
 unfold ckS at h
 split at h
 ·exact absurd (by decide) h
 ·rename_i h1
  split at h
  ·exact absurd (by decide) h
  ·rename_i h2
   refine ⟨by omega,fun p hp=>?_⟩
   cases hv:QD p with
   | true=>rfl
   | false=>exact absurd (List.any_eq_true.2 ⟨p,hp,by simp [badP,hv]⟩) h2
variable {ls:List (List Pl)}
theorem valid_all (h:validS ls=true):∀ c∈ls,c.length<=48/\∀ p∈c,QD p=true:=fun c hc=>by
 refine ck_ok ?_
 cases hb:badC c with
 | false=>rfl
 | true =>
  unfold validS at h
  rw [List.any_eq_true.2 ⟨c,hc,hb⟩] at h; cases h
theorem norms_valid:∀ p∈norms.map wsP,QD p=true:=by decide +kernel
theorem ofS_valid (h:validS ls=true):∀ p∈ofS ls,QD p=true:=fun p hp=>by
 rcases List.mem_append.1 hp with hp | hp
 ·obtain ⟨c,hc,hp⟩:=List.mem_flatten.1 hp
  exact (valid_all h c hc).2 p hp
 ·exact norms_valid p hp
structure OkC (c:List Pl):Prop where
 n:1<=c.length/\c.length<=100
structure OkA (a b:List Pl):Prop where
 n:1<=a.length/\a.length<=100
 m:b.length<=100
theorem OkA.fl {a b:List Pl} (h:OkA a b):1<=[a,b].flatten.length/\[a,b].flatten.length<=1000:=by
 have:=h.n; have:=h.m; simp; omega
theorem OkA.of {a b:List Pl} (h:validS [a,b]=true):(ofS [a,b]).length<=110:=by
 have h1:=(valid_all h a (by simp)).1; have h2:=(valid_all h b (by simp)).1; simp [ofS,norms]; omega
theorem OkC.fl {c:List Pl} (h:OkC c):1<=[c].flatten.length/\[c].flatten.length<=1000:=by
 have:=h.n; simp; omega
theorem OkC.of {c:List Pl} (h:validS [c]=true):(ofS [c]).length<=110:=by
 have h1:=(valid_all h c (by simp)).1; simp [ofS,norms]; omega
def mcv182:MC:=(sq [oN 4 (.mv (.c (.bool false))) []] (.seq (sq [oM 7 1 [],oE 8 7 [0],oN 9 (.mv (cI 0)) []] (.block 0 (.loop (sq [oB 10 .lss 9 8 []] (.seq (.cond 10 .skip (.exit 0)) (.seq (.block 1 (sq [oX 11 1 7 9 [],oD 12 1 11 [0],oM 6 12 [1,0,1]] (sq [oM 13 6 [],oM 14 0 [],oN 15 (.un .neg 14) [1],oB 16 .lss 13 15 [0,2],oM 17 16 [3],pM 18 6 17 false [4],pM 19 0 17 false [4],oG 20 (.bin .gtr 18 19) 17 false [5,6,4],oN 21 (.pick 17 (.c (.bool true)) 20) [4,7]] (.cond 21 (sq [oN 4 (.mv (.c (.bool false))) []] .ret) .skip)))) (rg [oB 22 .add 9 (cI 1) [],oM 9 22 [0]]))))))) (sq [oN 4 (.mv (.c (.bool true))) []] .ret)))
theorem mcOkv182:okM Tryz.prog Tryz.f70 23=some mcv182:=by kernel_rfl
theorem vc182 (m:Int) (l:List Int) (hm:0<=m/\m<=1000000000) (hn:l.length<=1000):FC Tryz.prog 70 [iv m,ints l] [] (.bool (X6 m l)) [] false:=by
 refine Qh (nt:=23) Tryz.func70 rfl rfl mcOkv182 (nL rfl) ?_
 delta mcv182
 refine gA 8 rfl (Q1 rfl rfl (gR 3 rfl ?_))
 refine Xp (α:=Nat) [0,7,8] [] (fun k=>l.length-k) (fun k=>[(9,iv (((k):Nat):Int))]) (fun k=>[]) (fun k=>k<=l.length/\X6 m (l.drop k)=X6 m l) 0 (⟨by omega,rfl⟩) rfl (wkS rfl) ?_
 rintro k ⟨hk,hinv⟩
 refine gT 5 rfl (Qc rfl (fun h10=>?_) (fun h10=>?_))
 ·refine gK 5 rfl ?_
  obtain ⟨x,hxk,hxm⟩:=Q8 (L:=l) (k:=k) (by omega)
  rw [withinS_at hxk] at hinv
  refine QH (f:=ci) (y:=x) rfl rfl rfl (by omega) hxk (gR 7 rfl (rs_neg rfl rfl (by omega) (gR 0 rfl (Qz rfl rfl rfl rfl (fun h16=>?_) (fun h16=>?_)))))
  ·skip
   refine gR 12 rfl ?_
   rw [decide_eq_false (show ¬ (-m<=x/\x<=m) by omega),Bool.false_and] at hinv
   rw [← hinv]
   exact rQ
  ·skip
   refine gR 3 rfl (Qz rfl rfl rfl rfl (fun h20=>?_) (fun h20=>?_))
   ·skip
    refine gR 8 rfl ?_
    rw [decide_eq_false (show ¬ (-m<=x/\x<=m) by omega),Bool.false_and] at hinv
    rw [← hinv]
    exact rQ
   ·skip
    refine gR 5 rfl (Qm rfl rfl rfl (by omega) (gR 2 rfl ?_))
    rw [decide_eq_true (show -m<=x/\x<=m by omega),Bool.true_and] at hinv
    exact X9 <| ⟨k+1,⟨by omega,hinv⟩,by omega,wkS rfl⟩
 ·refine gK 6 rfl ?_
  rw [List.drop_eq_nil_of_le (by omega)] at hinv
  rw [← hinv]
  exact rQ
def mcv157:MC:=(sq [oN 1 (.box 129 4 0) [],oN 2 (.mv (.c (.bool false))) []] (sq [oA 3 0 1 [],oA 4 0 3 [0],oD 5 1 4 [1],oA 6 0 1 [],oA 7 1 6 [3],oD 8 1 7 [4],oA 9 0 1 [],oA 10 2 9 [6],oD 11 1 10 [7],oN 12 (.bslice 3 1 [(iv 0)] 3 [(0,5),(1,8),(2,11)]) [2,5,8],oQ 13 70 [(cI 4608),12] [9],oM 14 13 [10,10],pA 15 0 1 14 true [11],pA 16 0 15 14 true [12,11],pD 17 1 16 14 true [13,11],pA 18 0 1 14 true [11],pA 19 1 18 14 true [15,11],pD 20 1 19 14 true [16,11],pA 21 0 1 14 true [11],pA 22 2 21 14 true [18,11],pD 23 1 22 14 true [19,11],oG 24 (.bslice 3 1 [(iv 0)] 3 [(0,17),(1,20),(2,23)]) 14 true [14,17,20,11],oG 25 (.call 162 [24]) 14 true [21,11,11],oG 26 (.bin .eql 25 (cI 1)) 14 true [22,11],oN 27 (.pick 14 26 (.c (.bool false))) [11,23],oM 28 27 [24,22],pA 29 3 1 28 true [25],pD 30 1 29 28 true [26,25],oG 31 (.bslice 3 1 [(iv 0)] 1 [(0,30)]) 28 true [27,25],oG 32 (.call 70 [(cI 2097152),31]) 28 true [28,25,25],oN 33 (.pick 28 32 (.c (.bool false))) [25,29],oM 2 33 (30::29::up 31)] .ret))
theorem mcOkv157:okM Tryz.prog Tryz.f122 34=some mcv157:=by kernel_rfl
theorem vc157 (p:Pl):FC Tryz.prog 122 [.agg (cPl p)] [] (.bool (QD p)) [] false:=by
 refine Qh (nt:=34) Tryz.func122 rfl rfl mcOkv157 (nL rfl) ?_
 delta mcv157
 refine gA 16 rfl (bM ci (([p.n.x,p.n.y,p.n.z]:List Int)) (by kernel_rfl) (gR 0 rfl (XM [12] rfl rfl (vc182 4608 [p.n.x,p.n.y,p.n.z] (by decide) (by simp)) (.cons (Ql rfl) (.cons (hv_slm (f:=ci) (xs:=[p.n.x,p.n.y,p.n.z]) (by simp) rfl rfl) (.nil))) rfl ?_)))
 cases h13:X6 4608 [p.n.x,p.n.y,p.n.z]
 ·skip
  refine gR 23 rfl ?_
  rw [show QD p=false from by unfold QD; rw [h13]; rfl]
  exact rQ
 ·skip
  refine gR 10 rfl (bM ci (([p.n.x,p.n.y,p.n.z]:List Int)) (by kernel_rfl) (gR 0 rfl (XM [24] rfl rfl (fc46 [p.n.x,p.n.y,p.n.z] (fun x hx=>by have:=within_bd h13 x hx; omega) (by simp)) (.cons (hv_slm (f:=ci) (xs:=[p.n.x,p.n.y,p.n.z]) (by simp) rfl rfl) (.nil)) rfl (gR 0 rfl (Qz rfl rfl rfl rfl (fun h26=>?_) (fun h26=>?_))))))
  ·skip
   refine gR 4 rfl (bM ci (([p.b]:List Int)) (by kernel_rfl) (gR 0 rfl (XM [31] rfl rfl (vc182 2097152 [p.b] (by decide) (by simp)) (.cons (Ql rfl) (.cons (hv_slm (f:=ci) (xs:=[p.b]) (by simp) rfl rfl) (.nil))) rfl ?_)))
   cases h32:X6 2097152 [p.b]
   ·skip
    refine gR 4 rfl ?_
    rw [show QD p=false from by unfold QD; rw [h13,decide_eq_true h26,h32]; rfl]
    exact rQ
   ·skip
    refine gR 4 rfl ?_
    rw [show QD p=true from by unfold QD; rw [h13,decide_eq_true h26,h32]; rfl]
    exact rQ
  ·skip
   refine gR 10 rfl ?_
   rw [show QD p=false from by unfold QD; rw [h13,decide_eq_false h26]; rfl]
   exact rQ
def mcv156:MC:=(sq [oN 1 (.box 129 4 0) [],oN 2 (.mv (.c (.bool false))) []] (sq [oL 3 4 1 [],oQ 4 122 [3] [0],oN 5 (.un .not 4) [1],oM 2 5 [2,1,0,1,2]] .ret))
theorem mcOkv156:okM Tryz.prog Tryz.f121 6=some mcv156:=by kernel_rfl
theorem vc156 (p:Pl):FC Tryz.prog 121 [.agg (cPl p)] [] (.bool (badP p)) [] false:=by
 refine Qh (nt:=6) Tryz.func121 rfl rfl mcOkv156 (nL rfl) ?_
 delta mcv156
 refine gA 8 rfl (cN rfl rfl (vc157 p) (gR 4 rfl ?_))
 exact rQ
theorem vcI_bad (xs:List Pl) (hxn:xs.length<=4611686018427387904):FC Tryz.prog 123 [.rs 4 (xs.map cPl),(.fn (.func 121) [])] [] (.int .i64 (idxS badP xs 0)) [] false:=by
 refine Qh (nt:=19) Tryz.func123 rfl rfl mcOkv181 (nL rfl) ?_
 delta mcv181
 refine gA 8 rfl (Q1 rfl rfl (gR 3 rfl ?_))
 refine Xp (α:=Nat) [0,1,6,7] [] (fun k=>xs.length-k) (fun k=>[(8,iv (((k):Nat):Int))]) (fun k=>[]) (fun k=>k<=xs.length/\idxS badP (xs.drop k) k=idxS badP xs 0) 0 (⟨by omega,rfl⟩) rfl (wkS rfl) ?_
 rintro k ⟨hk,hinv⟩
 refine gT 5 rfl (Qc rfl (fun h9=>?_) (fun h9=>?_))
 ·refine gK 13 rfl ?_
  obtain ⟨x,hxk,hxm⟩:=Q8 (L:=xs) (k:=k) (by omega)
  rw [idxS_at hxk] at hinv
  refine QH (f:=cPl) (y:=x) rfl rfl rfl (by omega) hxk (gR 0 rfl (Ja (cs:=cPl x) rfl rfl (nL rfl) rfl (gR 0 rfl (rs_callvo [] rfl rfl (by kernel_rfl) rfl (fc_up (vc156 x)) (.cons (Ql rfl) (.nil)) .nil rfl rfl rfl ?_))))
  cases h16:badP x
  ·skip
   refine gR 4 rfl (Qm rfl rfl rfl (by omega) (gR 2 rfl ?_))
   rw [h16] at hinv
   exact X9 <| ⟨k+1,⟨by omega,hinv⟩,by omega,wkS rfl⟩
  ·skip
   refine gR 8 rfl ?_
   rw [h16] at hinv
   rw [← hinv]
   exact rQ
 ·refine gK 6 rfl ?_
  rw [idxS_end (by omega)] at hinv
  rw [← hinv]
  exact rQ
theorem vcC_bad (xs:List Pl) (hxn:xs.length<=4611686018427387904):FC Tryz.prog 71 [.rs 4 (xs.map cPl),(.fn (.func 121) [])] [] (.bool (xs.any badP)) [] false:=by
 refine Qh (nt:=9) Tryz.func71 rfl rfl mcOkv155 (nL rfl) ?_
 delta mcv155
 refine gA 8 rfl (cN rfl rfl (vcI_bad xs hxn) (gR 0 rfl (rs_geq rfl rfl rfl (gR 3 rfl ?_))))
 rw [← idxS_cond]
 exact rQ
def mcv128:MC:=(sq [oN 2 (.mv (cI 0)) []] (.seq (.block 0 (sq [oM 4 0 [],oE 5 4 [0],oB 6 .gtr 5 (cI 48) [1],oM 3 6 [2]] (.cond 3 (sq [oN 2 (.mv (cI 2)) []] .ret) (sq [oM 8 0 [],oQ 9 71 [8,(.c (.fn (.func 121) []))] [0],oM 7 9 [1,1]] (.cond 7 (sq [oN 2 (.mv (cI 12)) []] .ret) .skip))))) (sq [oN 2 (.mv (cI 0)) []] .ret)))
theorem mcOkv128:okM Tryz.prog Tryz.f69 10=some mcv128:=by kernel_rfl
theorem vc128 (c:List Pl) (hc:c.length<=1000):FC Tryz.prog 69 [.rs 4 (c.map cPl)] [] (iv (ckS c)) [] false:=by
 refine Qh (nt:=10) Tryz.func69 rfl rfl mcOkv128 (nL rfl) ?_
 delta mcv128
 refine gA 9 rfl (Q1 rfl rfl (gR 0 rfl (rs_gtr rfl rfl rfl (gR 2 rfl (Qc rfl (fun h3=>?_) (fun h3=>?_))))))
 ·refine gK 5 rfl ?_
  rw [show ckS c=2 from if_pos (by omega)]
  exact rQ
 ·refine gK 3 rfl (cN rfl rfl (vcC_bad c (by omega)) ?_)
  cases h9:c.any badP
  ·skip
   refine gR 9 rfl ?_
   rw [show ckS c=0 from by unfold ckS; rw [if_neg (by omega),h9]; rfl]
   exact rQ
  ·skip
   refine gR 8 rfl ?_
   rw [show ckS c=12 from by unfold ckS; rw [if_neg (by omega),h9]; rfl]
   exact rQ
def mcv159:MC:=(sq [oN 2 (.mv (.c (.bool false))) []] (sq [oM 3 0 [],oQ 4 69 [3] [0],oB 5 .neq 4 (cI 0) [1],oM 2 5 [2,1,0,1,2]] .ret))
theorem mcOkv159:okM Tryz.prog Tryz.f68 6=some mcv159:=by kernel_rfl
theorem vc159 (c:List Pl) (hc:c.length<=1000):FC Tryz.prog 68 [.rs 4 (c.map cPl)] [] (.bool (badC c)) [] false:=by
 refine Qh (nt:=6) Tryz.func68 rfl rfl mcOkv159 (nL rfl) ?_
 delta mcv159
 refine gA 7 rfl (cN rfl rfl (vc128 c hc) (gR 0 rfl (Jv rfl rfl rfl (gR 3 rfl ?_))))
 exact rQ
def mcv158:MC:=(sq [oN 4 (.mv (cI 0)) []] (.seq (sq [oM 6 0 [],oE 7 6 [0],oN 8 (.mv (cI 0)) []] (.block 0 (.loop (sq [oB 9 .lss 8 7 []] (.seq (.cond 9 .skip (.exit 0)) (.seq (.block 1 (sq [oM 10 8 [],oM 5 10 [0,0]] (sq [oM 11 1 [],oM 12 0 [],oM 13 5 [],oX 14 1 12 13 [1,2],oD 15 1 14 [3],oN 16 (.callv 11 [15]) [0,4]] (.cond 16 (sq [oM 17 5 [],oM 4 17 [0,0]] .ret) .skip)))) (rg [oB 18 .add 8 (cI 1) [],oM 8 18 [0]]))))))) (sq [oN 4 (.mv (cI (-1))) []] .ret)))
theorem mcOkv158:okM Tryz.prog Tryz.f120 19=some mcv158:=by kernel_rfl
theorem vcI_badc (xs:List (List Pl)) (hx:∀ x∈xs,x.length<=1000) (hxn:xs.length<=4611686018427387904):FC Tryz.prog 120 [.rs 1 (xs.map cR),(.fn (.func 68) [])] [] (.int .i64 (idxS badC xs 0)) [] false:=by
 refine Qh (nt:=19) Tryz.func120 rfl rfl mcOkv158 (nL rfl) ?_
 delta mcv158
 refine gA 8 rfl (Q1 rfl rfl (gR 3 rfl ?_))
 refine Xp (α:=Nat) [0,1,6,7] [] (fun k=>xs.length-k) (fun k=>[(8,iv (((k):Nat):Int))]) (fun k=>[]) (fun k=>k<=xs.length/\idxS badC (xs.drop k) k=idxS badC xs 0) 0 (⟨by omega,rfl⟩) rfl (wkS rfl) ?_
 rintro k ⟨hk,hinv⟩
 refine gT 5 rfl (Qc rfl (fun h9=>?_) (fun h9=>?_))
 ·refine gK 13 rfl ?_
  obtain ⟨x,hxk,hxm⟩:=Q8 (L:=xs) (k:=k) (by omega)
  rw [idxS_at hxk] at hinv
  refine QH (f:=cR) (y:=x) rfl rfl rfl (by omega) hxk (gR 1 rfl (rs_callvo [] rfl rfl (by kernel_rfl) rfl (fc_up (vc159 x (hx x hxm))) (.cons (Ql rfl) (.nil)) .nil rfl rfl rfl ?_))
  cases h16:badC x
  ·skip
   refine gR 4 rfl (Qm rfl rfl rfl (by omega) (gR 2 rfl ?_))
   rw [h16] at hinv
   exact X9 <| ⟨k+1,⟨by omega,hinv⟩,by omega,wkS rfl⟩
  ·skip
   refine gR 8 rfl ?_
   rw [h16] at hinv
   rw [← hinv]
   exact rQ
 ·refine gK 6 rfl ?_
  rw [idxS_end (by omega)] at hinv
  rw [← hinv]
  exact rQ
def mcv131:MC:=(sq [oN 4 (.mv (.c (.bool false))) []] (sq [oM 5 0 [],oM 6 1 [],oQ 7 120 [5,6] [0,1],oB 8 .geq 7 (cI 0) [2],oM 4 8 (3::2::up 4)] .ret))
theorem mcOkv131:okM Tryz.prog Tryz.f67 9=some mcv131:=by kernel_rfl
theorem vcC_badc (xs:List (List Pl)) (hx:∀ x∈xs,x.length<=1000) (hxn:xs.length<=4611686018427387904):FC Tryz.prog 67 [.rs 1 (xs.map cR),(.fn (.func 68) [])] [] (.bool (xs.any badC)) [] false:=by
 refine Qh (nt:=9) Tryz.func67 rfl rfl mcOkv131 (nL rfl) ?_
 delta mcv131
 refine gA 8 rfl (cN rfl rfl (vcI_badc xs hx hxn) (gR 0 rfl (rs_geq rfl rfl rfl (gR 3 rfl ?_))))
 rw [← idxS_cond]
 exact rQ
def mcv133:MC:=(sq [oN 2 (.mv (.c (.bool false))) []] (sq [oM 3 0 [],oQ 4 67 [3,(.c (.fn (.func 68) []))] [0],oN 5 (.un .not 4) [1],oM 2 5 [2,1,0,1,2]] .ret))
theorem mcOkv133:okM Tryz.prog Tryz.f38 6=some mcv133:=by kernel_rfl
theorem vc133 (ls:List (List Pl)) (hx:∀ x∈ls,x.length<=1000) (hn:ls.length<=1000):FC Tryz.prog 38 [.rs 1 (ls.map cR)] [] (.bool (validS ls)) [] false:=by
 refine Qh (nt:=6) Tryz.func38 rfl rfl mcOkv133 (nL rfl) ?_
 delta mcv133
 refine gA 7 rfl (cN rfl rfl (vcC_badc ls hx (by omega)) (gR 4 rfl ?_))
 exact rQ
def mcv154:MC:=(sq [oN 2 (.mv (.c (.bool false))) []] (sq [oM 3 0 [],oN 4 (.bslice 85 1 [.nils] 1 [(0,3)]) [0],oQ 5 38 [4] [1],oM 6 5 [2,2],pM 7 0 6 true [3],oG 8 (.bslice 85 1 [.nils] 1 [(0,7)]) 6 true [4,3],oG 9 (.call 152 [8]) 6 true [5,3,3],oG 10 (.call 153 [9]) 6 true [6,6,3],oN 11 (.pick 6 10 (.c (.bool false))) [3,7],oM 2 11 (8::7::up 9)] .ret))
theorem mcOkv154:okM Tryz.prog Tryz.f108 12=some mcv154:=by kernel_rfl
theorem vc154 (c:List Pl) (h:OkC c):FC Tryz.prog 108 [.rs 4 (c.map cPl)] [] (.bool (cfullS c)) [] false:=by
 have hcn:=h.n
 refine Qh (nt:=12) Tryz.func108 rfl rfl mcOkv154 (nL rfl) ?_
 delta mcv154
 refine gA 7 rfl (bM cR (([c]:List (List Pl))) (by kernel_rfl) (gR 0 rfl (XM [4] rfl rfl (vc133 [c] (fun x hx=>by rw [List.mem_singleton.1 hx]; omega) (by simp)) (.cons (hv_slm (f:=cR) (xs:=[c]) (by simp) rfl rfl) (.nil)) rfl ?_)))
 cases h5:validS [c]
 ·skip
  refine gR 9 rfl ?_
  rw [show cfullS c=false from by unfold cfullS; rw [h5]; rfl]
  exact rQ
 ·skip
  refine gR 2 rfl (bM cR (([c]:List (List Pl))) (by kernel_rfl) (gR 0 rfl (XM [8] rfl rfl (vc134 [c] h.fl (by simp)) (.cons (hv_slm (f:=cR) (xs:=[c]) (by simp) rfl rfl) (.nil)) rfl (gR 0 rfl (cN rfl rfl (vc135 (ofS [c]) (OkC.of h5) (okTop_valid (ofS_valid h5))) (gR 4 rfl ?_))))))
  rw [show cfullS c=fullS (ofS [c]) from by unfold cfullS; rw [h5]; rfl]
  exact rQ
def mcv89:MC:=(sq [oN 4 (.mv (.c (.bool false))) []] (sq [oM 5 0 [],oM 6 1 [],oN 7 (.bslice 85 1 [.nils] 2 [(0,5),(1,6)]) [0,1],oQ 8 38 [7] [2],oN 9 (.un .not 8) [3],oM 10 9 [4,3],pM 11 0 10 false [5],pM 12 1 10 false [5],oG 13 (.bslice 85 1 [.nils] 2 [(0,11),(1,12)]) 10 false [6,7,5],oG 14 (.call 152 [13]) 10 false [8,5,5],oG 15 (.call 153 [14]) 10 false [9,9,5],oG 16 (.un .not 15) 10 false [10,5],oN 17 (.pick 10 (.c (.bool true)) 16) [5,11],oM 4 17 (12::10::up 13)] .ret))
theorem mcOkv89:okM Tryz.prog Tryz.f139 18=some mcv89:=by kernel_rfl
theorem vc89g (a b:List Pl) (h1:1<=a.length+b.length) (hcn:a.length<=100) (hcm:b.length<=100):FC Tryz.prog 139 [.rs 4 (a.map cPl),.rs 4 (b.map cPl)] [] (.bool (apartS a b)) [] false:=by
 have hfl:1<=[a,b].flatten.length/\[a,b].flatten.length<=1000:=by simp; omega
 refine Qh (nt:=18) Tryz.func139 rfl rfl mcOkv89 (nL rfl) ?_
 delta mcv89
 refine gA 8 rfl (bM cR (([a,b]:List (List Pl))) (by kernel_rfl) (gR 0 rfl (XM [7] rfl rfl (vc133 [a,b] (fun x hx=>by simp only [List.mem_cons,List.not_mem_nil,or_false] at hx; rcases hx with e | e <;> rw [e] <;> omega) (by simp)) (.cons (hv_slm (f:=cR) (xs:=[a,b]) (by simp) rfl rfl) (.nil)) rfl ?_)))
 cases h8:validS [a,b]
 ·skip
  refine gR 12 rfl ?_
  rw [show apartS a b=true from by unfold apartS; rw [h8]; rfl]
  exact rQ
 ·skip
  refine gR 4 rfl (bM cR (([a,b]:List (List Pl))) (by kernel_rfl) (gR 0 rfl (XM [13] rfl rfl (vc134 [a,b] hfl (by simp)) (.cons (hv_slm (f:=cR) (xs:=[a,b]) (by simp) rfl rfl) (.nil)) rfl (gR 0 rfl (cN rfl rfl (vc135 (ofS [a,b]) (OkA.of h8) (okTop_valid (ofS_valid h8))) (gR 5 rfl ?_))))))
  rw [show apartS a b = !fullS (ofS [a,b]) from by unfold apartS; rw [h8]; rfl]
  exact rQ
end Go.Proofs.YthmbjgnjfjjibaaGreatDoor
namespace Go.Proofs.YthmbjgnjfjjibaaGreatDoor
open Go.RowKit
set_option maxRecDepth 100000
def JA (a b:Int):Int:=if a<b then -1 else if a>b then 1 else 0
def sideS (p:Pl) (v:V3):Int:=if QD p=true then (if inS v=true then JA (dotW p.n v) p.b else 0) else 0
def beyB (p:Pl) (v:V3):Bool:=decide (sideS p v>0)
def beyS (l:List V3) (p:Pl):Bool:=l.any (beyB p)
def thN (a b c:V3):V3:=Xb (subW b a) (subW c a)
def thP (a b c:V3):Pl:=⟨Qj (thN a b c),dotW (Qj (thN a b c)) a⟩
def thB (a b c:V3):Bool:=decide ((gS (thN a b c):Int)>0)
def flipH (p:Pl):Pl:=⟨subW ⟨0,0,0⟩ p.n,-p.b⟩
theorem inS_bd {v:V3} (h:inS v=true):Bd 24 v:=by
 have h:=within_bd (m:=24) h
 have h1:=h v.x (by simp); have h2:=h v.y (by simp); have h3:=h v.z (by simp)
 exact ⟨by omega,by omega,by omega⟩
theorem crossBd {a b:V3} (ha:Bd 48 a) (hb:Bd 48 b):Bd 4608 (cross a b):=by
 have e1:=XI ha.y hb.z; have e2:=XI ha.z hb.y; have e3:=XI ha.z hb.x; have e4:=XI ha.x hb.z; have e5:=XI ha.x hb.y; have e6:=XI ha.y hb.x
 exact ⟨by simp only [cross]; omega,by simp only [cross]; omega,by simp only [cross]; omega⟩
theorem thN_eq {a b c:V3} (ha:inS a=true) (hb:inS b=true) (hc:inS c=true):thN a b c=cross (sub b a) (sub c a):=by
 have a1:=inS_bd ha; have b1:=inS_bd hb; have c1:=inS_bd hc
 unfold thN
 rw [subW_eq (b1.mono (by decide)) (a1.mono (by decide)),subW_eq (c1.mono (by decide)) (a1.mono (by decide)),crossW_eq ((b1.sub a1).mono (by decide)) ((c1.sub a1).mono (by decide))]
theorem thN_bd {a b c:V3} (ha:inS a=true) (hb:inS b=true) (hc:inS c=true):Bd 4608 (thN a b c):=by
 rw [thN_eq ha hb hc]
 exact crossBd (((inS_bd hb).sub (inS_bd ha)).mono (by decide)) (((inS_bd hc).sub (inS_bd ha)).mono (by decide))
theorem tdivBd {x n:Int} {g:Nat} (h : -n<=x/\x<=n) : -n<=x.tdiv g/\x.tdiv g<=n:=by
 have h1:(x.tdiv g).natAbs<=x.natAbs:=by rw [Int.natAbs_tdiv]; exact Nat.div_le_self _ _
 omega
theorem primBd {n:Int} {v:V3} (h:Bd n v) (hn:0<=n):Bd n (Qj v):=by
 unfold Qj
 split
 ·exact ⟨⟨by simp; omega,by simp; omega⟩,⟨by simp; omega,by simp; omega⟩,⟨by simp; omega,by simp; omega⟩⟩
 ·exact ⟨tdivBd h.x,tdivBd h.y,tdivBd h.z⟩
theorem dotBd {a b:V3} (ha:Bd 4608 a) (hb:Bd 24 b) : -331776<=dot a b/\dot a b<=331776:=by
 have e1:=XI ha.x hb.x; have e2:=XI ha.y hb.y; have e3:=XI ha.z hb.z
 simp only [dot]; omega
theorem thP_bd {a b c:V3} (ha:inS a=true) (hb:inS b=true) (hc:inS c=true):Bd 4608 (thP a b c).n ∧ -331776<=(thP a b c).b/\(thP a b c).b<=331776:=by
 have h:=primBd (thN_bd ha hb hc) (by decide)
 refine ⟨h,?_⟩
 show -331776<=dotW _ a/\dotW _ a<=331776
 rw [dotW_eq (h.mono (by decide)) ((inS_bd ha).mono (by decide))]
 exact dotBd h (inS_bd ha)
theorem fcIn (v:V3) (h:inS v=true):FC Tryz.prog 39 [aV v] [] (.bool true) [] false:=by have:=fc40 v; rwa [h] at this
def mch253:MC:=(sq [oN 4 (.mv (cI 0)) []] (.seq (.block 0 (sq [oM 6 0 [],oM 7 1 [],oB 8 .lss 6 7 [0,1],oM 5 8 [2]] (.cond 5 (sq [oN 4 (.mv (cI (-1))) []] .ret) (sq [oM 10 0 [],oM 11 1 [],oB 12 .gtr 10 11 [0,1],oM 9 12 [2]] (.cond 9 (sq [oN 4 (.mv (cI 1)) []] .ret) .skip))))) (sq [oN 4 (.mv (cI 0)) []] .ret)))
theorem mcOkh253:(match Tryz.f253.body with | some c=>Qq Tryz.prog 13 c | none=>none)=some mch253:=by kernel_rfl
theorem vc253 (a b:Int):FC Tryz.prog 253 [iv a,iv b] [] (iv (JA a b)) [] false:=by
 refine Qh (nt:=13) Tryz.func253 rfl rfl mcOkh253 (nL rfl) ?_
 delta mch253
 refine gA 13 rfl (Qc rfl (fun h5=>?_) (fun h5=>?_))
 ·refine gK 5 rfl ?_
  rw [show JA a b = -1 from if_pos (by omega)]
  exact rQ
 ·refine gK 4 rfl (rs_gtr rfl rfl rfl (gR 2 rfl (Qc rfl (fun h9=>?_) (fun h9=>?_))))
  ·refine gK 5 rfl ?_
   rw [show JA a b=1 from by unfold JA; rw [if_neg (by omega),if_pos (by omega)]]
   exact rQ
  ·refine gK 6 rfl ?_
   rw [show JA a b=0 from by unfold JA; rw [if_neg (by omega),if_neg (by omega)]]
   exact rQ
def mch222:MC:=(sq [oN 2 (.box 129 4 0) [],oN 3 (.box 32 3 1) [],oN 4 (.mv (cI 0)) []] (.seq (sq [oL 5 4 2 [],oQ 6 122 [5] [0],oN 7 (.un .not 6) [1],oM 8 7 [2,1],oG 9 (.ld true 3 3) 8 false [3],oG 10 (.call 39 [9]) 8 false [4,3,3],oG 11 (.un .not 10) 8 false [5,3],oN 12 (.pick 8 (.c (.bool true)) 11) [3,6]] (.cond 12 (sq [oN 4 (.mv (cI 0)) []] .ret) .skip)) (dq [oA 13 0 2 [],oL 14 3 13 [0],oL 15 3 3 [],oQ 16 124 [14,15] [1,2],oA 17 3 2 [],oD 18 1 17 [4],oQ 19 253 [16,18] [3,5,3],oM 4 19 (6::6::up 7)] .ret)))
theorem mcOkh222:(match Tryz.f222.body with | some c=>Qq Tryz.prog 20 c | none=>none)=some mch222:=by kernel_rfl
theorem vc222 (p:Pl) (v:V3):FC Tryz.prog 222 [.agg (cPl p),aV v] [] (iv (sideS p v)) [] false:=by
 refine Qh (nt:=20) Tryz.func222 rfl rfl mcOkh222 (nL rfl) ?_
 delta mch222
 refine gA 10 rfl (cN rfl rfl (vc157 p) ?_)
 cases h6:QD p
 ·skip
  refine gR 13 rfl ?_
  rw [show sideS p v=0 from by unfold sideS; rw [h6]; rfl]
  exact rQ
 ·skip
  refine gR 3 rfl (cN rfl rfl (fc40 v) ?_)
  cases h10:inS v
  ·skip
   refine gR 9 rfl ?_
   rw [show sideS p v=0 from by unfold sideS; rw [h6,h10]; rfl]
   exact rQ
  ·skip
   refine gR 10 rfl (cN rfl rfl (fc30 p.n v) (gR 2 rfl (cN rfl rfl (vc253 (dotW p.n v) p.b) (gR 1 rfl (Xa (by kernel_rfl) (gP 1 rfl ?_))))))
   rw [show sideS p v=JA (dotW p.n v) p.b from by unfold sideS; rw [h6,h10]; rfl]
   exact rQ
def mch250:MC:=(sq [oN 2 (.box 32 3 0) [],oN 3 (.mv (.c (.bool false))) []] (sq [oL 4 4 1 [],oL 5 3 2 [],oQ 6 222 [4,5] [0,1],oB 7 .gtr 6 (cI 0) [2],oM 3 7 (3::2::up 4)] .ret))
theorem mcOkh250:(match Tryz.f250.body with | some c=>Qq Tryz.prog 8 c | none=>none)=some mch250:=by kernel_rfl
theorem vc250 (p:Pl) (v:V3):FC Tryz.prog 250 [aV v,.rp (cPl p)] [] (.bool (beyB p v)) [] false:=by
 refine Qh (nt:=8) Tryz.func250 rfl rfl mcOkh250 (nL rfl) ?_
 delta mch250
 refine gA 9 rfl (cN rfl rfl (vc222 p v) (gR 0 rfl (rs_gtr rfl rfl rfl (gR 3 rfl ?_))))
 exact rQ
def mch218:MC:=(sq [oN 4 (.mv (cI 0)) []] (.seq (sq [oM 6 0 [],oE 7 6 [0],oN 8 (.mv (cI 0)) []] (.block 0 (.loop (sq [oB 9 .lss 8 7 []] (.seq (.cond 9 .skip (.exit 0)) (.seq (.block 1 (sq [oM 10 8 [],oM 5 10 [0,0]] (sq [oM 11 1 [],oM 12 0 [],oM 13 5 [],oX 14 3 12 13 [1,2],oL 15 3 14 [3],oN 16 (.callv 11 [15]) [0,4]] (.cond 16 (sq [oM 17 5 [],oM 4 17 [0,0]] .ret) .skip)))) (rg [oB 18 .add 8 (cI 1) [],oM 8 18 [0]]))))))) (sq [oN 4 (.mv (cI (-1))) []] .ret)))
theorem mcOkh218:(match Tryz.f218.body with | some c=>Qq Tryz.prog 19 c | none=>none)=some mch218:=by kernel_rfl
theorem vcI_bey (p0:Pl) (xs:List V3) (hxn:xs.length<=4611686018427387904):FC Tryz.prog 218 [.rs 3 (xs.map cV),(.fn (.func 250) [.rp (cPl p0)])] [] (.int .i64 (idxS (beyB p0) xs 0)) [] false:=by
 refine Qh (nt:=19) Tryz.func218 rfl rfl mcOkh218 (nL rfl) ?_
 delta mch218
 refine gA 8 rfl (Q1 rfl rfl (gR 3 rfl ?_))
 refine Xp (α:=Nat) [0,1,6,7] [] (fun k=>xs.length-k) (fun k=>[(8,iv (((k):Nat):Int))]) (fun k=>[]) (fun k=>k<=xs.length/\idxS (beyB p0) (xs.drop k) k=idxS (beyB p0) xs 0) 0 (⟨by omega,rfl⟩) rfl (wkS rfl) ?_
 rintro k ⟨hk,hinv⟩
 refine gT 5 rfl (Qc rfl (fun h9=>?_) (fun h9=>?_))
 ·refine gK 13 rfl ?_
  obtain ⟨x,hxk,hxm⟩:=Q8 (L:=xs) (k:=k) (by omega)
  rw [idxS_at hxk] at hinv
  refine QH (f:=cV) (y:=x) rfl rfl rfl (by omega) hxk (gR 0 rfl (Ja (cs:=cV x) rfl rfl (nL rfl) rfl (gR 0 rfl (rs_callvo [] rfl rfl (by kernel_rfl) rfl (fc_up (vc250 p0 x)) (.cons (Ql rfl) (.cons (Ql rfl) (.nil))) .nil rfl rfl rfl ?_))))
  cases h16:(beyB p0) x
  ·skip
   refine gR 4 rfl (Qm rfl rfl rfl (by omega) (gR 2 rfl ?_))
   rw [h16] at hinv
   exact X9 <| ⟨k+1,⟨by omega,hinv⟩,by omega,wkS rfl⟩
  ·skip
   refine gR 8 rfl ?_
   rw [h16] at hinv
   rw [← hinv]
   exact rQ
 ·refine gK 6 rfl ?_
  rw [idxS_end (by omega)] at hinv
  rw [← hinv]
  exact rQ
def mch172:MC:=(sq [oN 4 (.mv (.c (.bool false))) []] (sq [oM 5 0 [],oM 6 1 [],oQ 7 218 [5,6] [0,1],oB 8 .geq 7 (cI 0) [2],oM 4 8 (3::2::up 4)] .ret))
theorem mcOkh172:(match Tryz.f172.body with | some c=>Qq Tryz.prog 9 c | none=>none)=some mch172:=by kernel_rfl
theorem vcC_bey (p0:Pl) (xs:List V3) (hxn:xs.length<=4611686018427387904):FC Tryz.prog 172 [.rs 3 (xs.map cV),(.fn (.func 250) [.rp (cPl p0)])] [] (.bool (xs.any (beyB p0))) [] false:=by
 refine Qh (nt:=9) Tryz.func172 rfl rfl mcOkh172 (nL rfl) ?_
 delta mch172
 refine gA 8 rfl (cN rfl rfl (vcI_bey p0 xs hxn) (gR 0 rfl (rs_geq rfl rfl rfl (gR 3 rfl ?_))))
 rw [← idxS_cond]
 exact rQ
def mch206:MC:=(sq [oN 3 (.box 129 4 1) [],oN 4 (.mv (.c (.bool false))) []] (sq [oM 5 0 [],oN 6 (.mkfn (.func 250) [3]) [],oQ 7 172 [5,6] [0,1],oM 4 7 [2,2,0,1,2]] .ret))
theorem mcOkh206:(match Tryz.f206.body with | some c=>Qq Tryz.prog 8 c | none=>none)=some mch206:=by kernel_rfl
theorem vc206 (l:List V3) (p:Pl) (hl:l.length<=1000):FC Tryz.prog 206 [.rs 3 (l.map cV),.agg (cPl p)] [] (.bool (beyS l p)) [] false:=by
 refine Qh (nt:=8) Tryz.func206 rfl rfl mcOkh206 (nL rfl) ?_
 delta mch206
 refine gA 6 rfl (QC (F0:=[(0,.rs 3 (l.map cV)),(3,.rp (cPl p))]) (H0:=[]) (Qf (.cs (.cons rfl (XJ rfl rfl (.inl rfl)) (.nil))) (.nil) (fun i h=>by cases h)) (gK 3 rfl (cN rfl rfl (vcC_bey p l (by omega)) (gR 3 rfl ?_))))
 exact rQ
def mch249:MC:=(sq [oN 1 (.box 129 4 0) [],oN 2 (.alloc 129 4 (iz 4)) []] (dq [oN 3 (.build (iz 3) []) [],oA 4 0 1 [],oL 5 3 4 [1],oQ 6 82 [3,5] [0,2],oA 7 3 1 [],oD 8 1 7 [4],oN 9 (.un .neg 8) [5],oN 10 (.build (iz 4) [(0,3,6),(3,1,9)]) [3,6],oS 4 2 10 (7::3::up 8)] .ret))
theorem mcOkh249:(match Tryz.f249.body with | some c=>Qq Tryz.prog 11 c | none=>none)=some mch249:=by kernel_rfl
theorem vc249 (p:Pl) (h : -9223372036854775807<=p.b/\p.b<=9223372036854775807):FC Tryz.prog 249 [.agg (cPl p)] [] (.agg (cPl (flipH p))) [] false:=by
 refine Qh (nt:=11) Tryz.func249 rfl rfl mcOkh249 (nL rfl) ?_
 delta mch249
 refine gA 10 rfl (cN rfl rfl (fc27 ⟨0,0,0⟩ p.n) (gR 2 rfl (rs_neg rfl rfl (by omega) (gR 2 rfl (Xa (by kernel_rfl) (gP 1 rfl ?_))))))
 exact rQ
def mch248:MC:=(sq [oN 3 (.box 32 3 0) [],oN 4 (.box 32 3 1) [],oN 5 (.box 32 3 2) [],oN 6 (.alloc 129 4 (iz 4)) [],oN 7 (.mv (.c (.bool false))) []] (.seq (sq [oL 10 3 3 [],oQ 11 39 [10] [0],oN 12 (.un .not 11) [1],oM 13 12 [2,1],oG 14 (.ld true 3 4) 13 false [3],oG 15 (.call 39 [14]) 13 false [4,3,3],oG 16 (.un .not 15) 13 false [5,3],oN 17 (.pick 13 (.c (.bool true)) 16) [3,6],oM 18 17 [7,5],oG 19 (.ld true 3 5) 18 false [8],oG 20 (.call 39 [19]) 18 false [9,8,8],oG 21 (.un .not 20) 18 false [10,8],oN 22 (.pick 18 (.c (.bool true)) 21) [8,11]] (.cond 22 (sq [oN 23 (.build (iz 4) []) [],oS 4 6 23 [0,0],oN 7 (.mv (.c (.bool false))) [1,0,1]] .ret) .skip)) (dq [oL 25 3 4 [],oL 26 3 3 [],oQ 27 82 [25,26] [0,1],oL 28 3 5 [],oL 29 3 3 [],oQ 30 82 [28,29] [3,4,2],oQ 31 192 [27,30] [2,5,5],oQ 32 182 [31] [6,6],oM 24 32 [7],oN 33 (.ext 24 0) [8],oN 34 (.ext 24 1) [8],oN 8 (.alloc 32 3 (iz 3)) [],oS 3 8 33 [11,9,7,0,1,2,3,4,5,6,7,8,9,11],oM 9 34 (10::12::up 13)] (dq [oL 35 3 8 [],oL 36 3 8 [],oL 37 3 3 [],oQ 38 124 [36,37] [1,2],oN 39 (.build (iz 4) [(0,3,35),(3,1,38)]) [0,3],oM 40 9 [],oB 41 .gtr 40 (cI 0) [5],oS 4 6 39 (4::3::up 5),oM 7 41 (6::7::up 8)] .ret))))
theorem mcOkh248:(match Tryz.f248.body with | some c=>Qq Tryz.prog 42 c | none=>none)=some mch248:=by kernel_rfl
theorem vc248 (a b c:V3) (ha:inS a=true) (hb:inS b=true) (hc:inS c=true):FC Tryz.prog 248 [aV a,aV b,aV c] [] (.tup [.agg (cPl (thP a b c)),.bool (thB a b c)]) [] false:=by
 refine Qh (nt:=42) Tryz.func248 rfl rfl mcOkh248 (nL rfl) ?_
 delta mch248
 refine gA 12 rfl (cN rfl rfl (fcIn a ha) (gR 3 rfl (cN rfl rfl (fcIn b hb) (gR 4 rfl (cN rfl rfl (fcIn c hc) (gR 9 rfl (cN rfl rfl (fc27 b a) (gR 2 rfl (cN rfl rfl (fc27 c a) (gR 0 rfl (cN rfl rfl (fc31 (subW b a) (subW c a)) ?_)))))))))))
 refine gR 0 rfl (cN rfl rfl (fc29 (thN a b c) ((thN_bd ha hb hc).mono (by decide))) (gR 6 rfl (Xa (by kernel_rfl) (gP 5 rfl (cN rfl rfl (fc30 (Qj (thN a b c)) a) (gR 2 rfl (rs_gtr rfl rfl rfl (gR 2 rfl (Xa (by kernel_rfl) (gP 1 rfl ?_))))))))))
 exact rQ
end Go.Proofs.YthmbjgnjfjjibaaGreatDoor
namespace Go.Proofs.YthmbjgnjfjjibaaGreatDoor
open Go.RowKit
set_option maxRecDepth 100000
abbrev plK (p:Pl):List Int:=[p.n.x,p.n.y,p.n.z,p.b]
theorem plK_len (l:List Pl):∀ q∈l.map plK,q.length=4:=fun q hq=>by
 obtain ⟨x,_,rfl⟩:=List.mem_map.1 hq; rfl
abbrev HS:=List Pl×List Pl
def dV:V3:=⟨0,0,0⟩
def XA (l:List V3) (s:HS) (p:Pl):HS:=if plK p∈s.1.map plK then s else (s.1++[p],if beyS l p=true then s.2 else s.2++[p])
def triF (l:List V3) (s:HS) (a b c:V3):HS:=if thB a b c=true then XA l (XA l s (thP a b c)) (flipH (thP a b c)) else s
def innF (l:List V3) (b c:V3) (s:HS):Nat->HS
 | 0=>s
 | k+1=>triF l (innF l b c s k) (l.getD k dV) b c
def mdlF (l:List V3) (c:V3) (s:HS):Nat->HS
 | 0=>s
 | j+1=>innF l (l.getD j dV) c (mdlF l c s j) j
def topF (l:List V3):Nat->HS
 | 0=>([],[])
 | i+1=>mdlF l (l.getD i dV) (topF l i) i
theorem accF_len (l:List V3) (s:HS) (p:Pl):(XA l s p).2.length<=s.2.length+1:=by
 unfold XA
 split
 ·omega
 ·dsimp only
  split
  ·omega
  ·rw [len_snoc]; omega
theorem triF_len (l:List V3) (s:HS) (a b c:V3):(triF l s a b c).2.length<=s.2.length+2:=by
 unfold triF
 split
 ·have h1:=accF_len l s (thP a b c)
  have h2:=accF_len l (XA l s (thP a b c)) (flipH (thP a b c))
  omega
 ·omega
theorem innF_len (l:List V3) (b c:V3) (s:HS):∀ k,(innF l b c s k).2.length<=s.2.length+2*k
 | 0=>by show s.2.length<=_; omega
 | k+1=>by
  have h1:=innF_len l b c s k
  have h2:=triF_len l (innF l b c s k) (l.getD k dV) b c
  show (triF _ _ _ _ _).2.length<=_; omega
theorem mdlF_len (l:List V3) (c:V3) (s:HS) (n:Nat):∀ j,j<=n->(mdlF l c s j).2.length<=s.2.length+2*n*j
 | 0,_=>by show s.2.length<=_; omega
 | j+1,h=>by
  have h1:=mdlF_len l c s n j (by omega)
  have h2:=innF_len l (l.getD j dV) c (mdlF l c s j) j
  show (innF _ _ _ _ _).2.length<=_
  have:2*n*(j+1)=2*n*j+2*n:=by rw [Nat.mul_add]; omega
  omega
theorem topF_len (l:List V3) (n:Nat):∀ i,i<=n->(topF l i).2.length<=2*n*n*i
 | 0,_=>Nat.le_refl _
 | i+1,h=>by
  have h1:=topF_len l n i (by omega)
  have h2:=mdlF_len l (l.getD i dV) (topF l i) n i (by omega)
  show (mdlF _ _ _ _).2.length<=_
  have h3:2*n*i<=2*n*n:=Nat.mul_le_mul_left _ (by omega)
  have:2*n*n*(i+1)=2*n*n*i+2*n*n:=by rw [Nat.mul_add]; omega
  omega
theorem snocK (l:List Pl) (x:Pl):(l++[x]).map plK=l.map plK++[plK x]:=by simp
theorem af_1 {l:List V3} {s:HS} {p:Pl} (h:decide (plK p∈s.1.map plK)=true):XA l s p=s:=if_pos (of_decide_eq_true h)
theorem af_2 {l:List V3} {s:HS} {p:Pl} (h:decide (plK p∈s.1.map plK)=false) (h2:beyS l p=true):XA l s p=(s.1++[p],s.2):=by unfold XA; rw [if_neg (of_decide_eq_false h),if_pos h2]
theorem af_3 {l:List V3} {s:HS} {p:Pl} (h:decide (plK p∈s.1.map plK)=false) (h2:beyS l p=false):XA l s p=(s.1++[p],s.2++[p]):=by unfold XA; rw [if_neg (of_decide_eq_false h),if_neg (by rw [h2]; decide)]
theorem tri_n {l:List V3} {s:HS} {a b c:V3} (h:thB a b c=false):triF l s a b c=s:=if_neg (by rw [h]; decide)
theorem tri_y {l:List V3} {s:HS} {a b c:V3} (h:thB a b c=true):triF l s a b c=XA l (XA l s (thP a b c)) (flipH (thP a b c)):=if_pos h
theorem getD_at {α:Type} {l:List α} {k:Nat} {x d:α} (h:l[k]?=some x):l.getD k d=x:=by simp [List.getD,h]
theorem slc_take (l:List V3) (m:Nat) (h:m<=l.length) {q:Int} (hq:q=(m:Int)):(((l.map cV).drop (0:Int).toNat).take (q.toNat-(0:Int).toNat))=(l.take m).map cV:=by
 subst hq
 simp [List.map_take]
def as159:MC:=(rg [oN 7 (.alloc 129 4 (iz 4)) [],oS 4 7 18 [0,0]])
def bd159:MC:=(.block 1 (.seq (sq [oD 19 1 5 [],oL 20 4 7 [],oN 21 (.mhas 4 19 20) [0,1]] (.cond 21 (.exit 1) .skip)) (sq [oD 22 1 5 [],oL 23 4 7 [],⟨none,(.mapadd 4 22 23 (.c (.bool true))),none,[0,1,0,1]⟩] (sq [oD 24 1 1 [],oL 25 4 7 [],oQ 26 206 [24,25] [0,1],oN 27 (.un .not 26) [2]] (.cond 27 (rg [oD 28 1 6 [],oL 29 4 7 [],oN 30 (.bslice 129 4 (iz 4) 1 [(0,29)]) [1],oN 31 (.app 129 4 32 (iz 4) 28 30) [0,2],oS 1 6 31 (3::3::up 4)]) .skip)))))
theorem as159a (l:List V3) (hr:l.length<=100) (p:Pl) (s:HS) (hl:s.2.length<=3000000) (o:Loop) (lb:Nat):AW Tryz.prog 35 [900,1006,903,1005,1008] (some lb) as159 (fun e F' H'=>e = .normal/\Weak 35 [900,1006,903,1005,1008] F' H' [(7,.ptr 7 0 0),(1,.rp [.rs 3 (l.map cV)]),(5,.ptr 1005 0 0),(6,.ptr 1006 0 0)] [(900,.lp o [(17,.fn (.func 247) [.rp [.rs 3 (l.map cV)]]),(1,.rp [.rs 3 (l.map cV)]),(5,.ptr 1005 0 0),(6,.ptr 1006 0 0)]),(1006,.cells 85 1 [[.sl 903 0 (s).2.length]] false),(903,.cells 129 4 (((s).2).map cPl) true),(1005,.cells 278 1 [[.mp 1008]] false),(1008,.mset (((s).1).map plK)),(7,.cells 129 4 [cPl p] true)]) [(18,.agg (cPl p)),(17,.fn (.func 247) [.rp [.rs 3 (l.map cV)]]),(1,.rp [.rs 3 (l.map cV)]),(5,.ptr 1005 0 0),(6,.ptr 1006 0 0)] [(900,.lp o [(17,.fn (.func 247) [.rp [.rs 3 (l.map cV)]]),(1,.rp [.rs 3 (l.map cV)]),(5,.ptr 1005 0 0),(6,.ptr 1006 0 0)]),(1006,.cells 85 1 [[.sl 903 0 (s).2.length]] false),(903,.cells 129 4 (((s).2).map cPl) true),(1005,.cells 278 1 [[.mp 1008]] false),(1008,.mset (((s).1).map plK))]:=by
 delta as159
 refine gA 4 rfl ?_
 exact Q5 <| ⟨rfl,Qf (Qk rfl rfl) (kS rfl rfl) (fun i hi=>by simp [Qa] at hi ⊢; omega)⟩
theorem bd159a (l:List V3) (hr:l.length<=100) (p:Pl) (s:HS) (hl:s.2.length<=3000000) (o:Loop) (lb:Nat):AW Tryz.prog 35 [900,1006,903,1005,1008] (some lb) bd159 (fun e F' H'=>e = .normal/\Weak 35 [900,1006,903,1005,1008] F' H' [] [(900,.lp o [(17,.fn (.func 247) [.rp [.rs 3 (l.map cV)]]),(1,.rp [.rs 3 (l.map cV)]),(5,.ptr 1005 0 0),(6,.ptr 1006 0 0)]),(1006,.cells 85 1 [[.sl 904 0 (XA l s p).2.length]] false),(904,.cells 129 4 (((XA l s p).2).map cPl) true),(1005,.cells 278 1 [[.mp 1008]] false),(1008,.mset (((XA l s p).1).map plK)),(903,.dead)]) [(7,.ptr 7 0 0),(1,.rp [.rs 3 (l.map cV)]),(5,.ptr 1005 0 0),(6,.ptr 1006 0 0)] [(900,.lp o [(17,.fn (.func 247) [.rp [.rs 3 (l.map cV)]]),(1,.rp [.rs 3 (l.map cV)]),(5,.ptr 1005 0 0),(6,.ptr 1006 0 0)]),(1006,.cells 85 1 [[.sl 903 0 (s).2.length]] false),(903,.cells 129 4 (((s).2).map cPl) true),(1005,.cells 278 1 [[.mp 1008]] false),(1008,.mset (((s).1).map plK)),(7,.cells 129 4 [cPl p] true)]:=by
 delta bd159
 refine gA 6 rfl (rs_mhas (l:=plK p) rfl rfl rfl rfl rfl rfl (plK_len s.1) ?_)
 cases h21:decide (plK p∈s.1.map plK)
 ·skip
  refine gR 7 rfl (rs_mapadd (l:=plK p) rfl rfl rfl rfl rfl rfl rfl (plK_len s.1) (of_decide_eq_false h21) (gR 5 rfl (cN rfl rfl (vc206 l p (by omega)) ?_)))
  cases h26:beyS l p
  ·skip
   refine gR 6 rfl (bM cPl (([p]:List Pl)) (by kernel_rfl) (gR 0 rfl (apM cPl (y:=p) rfl (by omega) rfl (gR 2 rfl ?_))))
   rw [af_3 h21 h26]
   exact Q5 <| ⟨rfl,(Weak.trans (F1:=[]) (H1:=[(900,.lp o [(17,.fn (.func 247) [.rp [.rs 3 (l.map cV)]]),(1,.rp [.rs 3 (l.map cV)]),(5,.ptr 1005 0 0),(6,.ptr 1006 0 0)]),(1006,.cells 85 1 [[.sl 31 0 ((s.1++[p],s.2++[p])).2.length]] false),(31,.cells 129 4 ((((s.1++[p],s.2++[p])).2).map cPl) true),(1005,.cells 278 1 [[.mp 1008]] false),(1008,.mset ((((s.1++[p],s.2++[p])).1).map plK)),(903,.dead)]) (Qf (.nil) (.keep (rfl) rfl (.keep (by dsimp only; rw [len_snoc]; rfl) rfl (.keep (rfl) rfl (.keep (rfl) rfl (.keep (by dsimp only; rw [snocK]; rfl) rfl (kS rfl rfl)))))) (fun i hi=>by simp [Qa] at hi ⊢; omega)) (Weak.trans (F1:=[]) (Q0 (i:=31) (i':=904) (k:=1006) rfl rfl (.nil) (by decide) rfl (.sl _ _)) (Qf (.nil) (kS rfl rfl) (fun i hi=>by simp [Qa] at hi ⊢; omega))))⟩
  ·skip
   refine gR 4 rfl ?_
   rw [af_2 h21 h26]
   exact Q5 <| ⟨rfl,(Weak.trans (F1:=[]) (H1:=[(900,.lp o [(17,.fn (.func 247) [.rp [.rs 3 (l.map cV)]]),(1,.rp [.rs 3 (l.map cV)]),(5,.ptr 1005 0 0),(6,.ptr 1006 0 0)]),(1006,.cells 85 1 [[.sl 903 0 ((s.1++[p],s.2)).2.length]] false),(903,.cells 129 4 ((((s.1++[p],s.2)).2).map cPl) true),(1005,.cells 278 1 [[.mp 1008]] false),(1008,.mset ((((s.1++[p],s.2)).1).map plK))]) (Qf (.nil) (.keep (rfl) rfl (.keep (rfl) rfl (.keep (rfl) rfl (.keep (rfl) rfl (.keep (by dsimp only; rw [snocK]; rfl) rfl (.nil)))))) (fun i hi=>by simp [Qa] at hi ⊢; omega)) (Weak.trans (F1:=[]) (Q0 (i:=903) (i':=904) (k:=1006) rfl rfl (.nil) (by decide) rfl (.sl _ _)) (Qf (.nil) (kS rfl rfl) (fun i hi=>by simp [Qa] at hi ⊢; omega))))⟩
 ·skip
  refine gR 3 rfl ?_
  rw [af_1 h21]
  exact Q5 <| ⟨rfl,(Weak.trans (F1:=[]) (H1:=[(900,.lp o [(17,.fn (.func 247) [.rp [.rs 3 (l.map cV)]]),(1,.rp [.rs 3 (l.map cV)]),(5,.ptr 1005 0 0),(6,.ptr 1006 0 0)]),(1006,.cells 85 1 [[.sl 903 0 (s).2.length]] false),(903,.cells 129 4 (((s).2).map cPl) true),(1005,.cells 278 1 [[.mp 1008]] false),(1008,.mset (((s).1).map plK))]) (Qf (.nil) (kS rfl rfl) (fun i hi=>by simp [Qa] at hi ⊢; omega)) (Weak.trans (F1:=[]) (Q0 (i:=903) (i':=904) (k:=1006) rfl rfl (.nil) (by decide) rfl (.sl _ _)) (Qf (.nil) (kS rfl rfl) (fun i hi=>by simp [Qa] at hi ⊢; omega))))⟩
theorem y159a (l:List V3) (hr:l.length<=100) (p:Pl) (s:HS) (hl:s.2.length<=3000000) (r0:Loop) (h:Rec0 Tryz.prog 35 [18] as159 bd159 r0) :
  FCg (XB Tryz.prog) [.yl 900,.agg (cPl p)] [(900,.lp r0 [(17,.fn (.func 247) [.rp [.rs 3 (l.map cV)]]),(1,.rp [.rs 3 (l.map cV)]),(5,.ptr 1005 0 0),(6,.ptr 1006 0 0)]),(1006,.cells 85 1 [[.sl 903 0 (s).2.length]] false),(903,.cells 129 4 (((s).2).map cPl) true),(1005,.cells 278 1 [[.mp 1008]] false),(1008,.mset (((s).1).map plK))] (.bool true) [(900,.lp r0 [(17,.fn (.func 247) [.rp [.rs 3 (l.map cV)]]),(1,.rp [.rs 3 (l.map cV)]),(5,.ptr 1005 0 0),(6,.ptr 1006 0 0)]),(1006,.cells 85 1 [[.sl 904 0 (XA l s p).2.length]] false),(904,.cells 129 4 (((XA l s p).2).map cPl) true),(1005,.cells 278 1 [[.mp 1008]] false),(1008,.mset (((XA l s p).1).map plK)),(903,.dead)] true:=by
 have:=Jm (P:=Tryz.prog) (F:=[(17,.fn (.func 247) [.rp [.rs 3 (l.map cV)]]),(1,.rp [.rs 3 (l.map cV)]),(5,.ptr 1005 0 0),(6,.ptr 1006 0 0)]) (N:=35) (x:=as159) (y:=bd159) h.ca h.cb (li:=900) (ps:=[18]) (vs:=[.agg (cPl p)]) (J:=[(1006,.cells 85 1 [[.sl 903 0 (s).2.length]] false),(903,.cells 129 4 (((s).2).map cPl) true),(1005,.cells 278 1 [[.mp 1008]] false),(1008,.mset (((s).1).map plK))]) (J1:=[(1006,.cells 85 1 [[.sl 903 0 (s).2.length]] false),(903,.cells 129 4 (((s).2).map cPl) true),(1005,.cells 278 1 [[.mp 1008]] false),(1008,.mset (((s).1).map plK)),(7,.cells 129 4 [cPl p] true)]) (J':=[(1006,.cells 85 1 [[.sl 904 0 (XA l s p).2.length]] false),(904,.cells 129 4 (((XA l s p).2).map cPl) true),(1005,.cells 278 1 [[.mp 1008]] false),(1008,.mset (((XA l s p).1).map plK)),(903,.dead)]) (Fb:=[(7,.ptr 7 0 0),(1,.rp [.rs 3 (l.map cV)]),(5,.ptr 1005 0 0),(6,.ptr 1006 0 0)]) (Z0:=[900,1006,903,1005,1008]) .normal none (.inl ⟨rfl,rfl⟩)
  rfl rfl (fun i hi=>Qp.1 hi) (by simp) (fun i h=>Qp.2 h) (fun i hi=>Qp.1 (by simp [Qa] at hi ⊢; omega)) h.state h.params rfl rfl h.size (fun t v h=>Js h) (fun lb o=>as159a l hr p s hl o lb) (fun lb o=>bd159a l hr p s hl o lb)
 rw [rec_same h.state h.pending] at this
 exact this
theorem as159b (l:List V3) (hr:l.length<=100) (p:Pl) (s:HS) (hl:s.2.length<=3000000) (o:Loop) (lb:Nat):AW Tryz.prog 35 [900,1006,904,1005,1008] (some lb) as159 (fun e F' H'=>e = .normal/\Weak 35 [900,1006,904,1005,1008] F' H' [(7,.ptr 7 0 0),(1,.rp [.rs 3 (l.map cV)]),(5,.ptr 1005 0 0),(6,.ptr 1006 0 0)] [(900,.lp o [(17,.fn (.func 247) [.rp [.rs 3 (l.map cV)]]),(1,.rp [.rs 3 (l.map cV)]),(5,.ptr 1005 0 0),(6,.ptr 1006 0 0)]),(1006,.cells 85 1 [[.sl 904 0 (s).2.length]] false),(904,.cells 129 4 (((s).2).map cPl) true),(1005,.cells 278 1 [[.mp 1008]] false),(1008,.mset (((s).1).map plK)),(7,.cells 129 4 [cPl p] true)]) [(18,.agg (cPl p)),(17,.fn (.func 247) [.rp [.rs 3 (l.map cV)]]),(1,.rp [.rs 3 (l.map cV)]),(5,.ptr 1005 0 0),(6,.ptr 1006 0 0)] [(900,.lp o [(17,.fn (.func 247) [.rp [.rs 3 (l.map cV)]]),(1,.rp [.rs 3 (l.map cV)]),(5,.ptr 1005 0 0),(6,.ptr 1006 0 0)]),(1006,.cells 85 1 [[.sl 904 0 (s).2.length]] false),(904,.cells 129 4 (((s).2).map cPl) true),(1005,.cells 278 1 [[.mp 1008]] false),(1008,.mset (((s).1).map plK))]:=by
 delta as159
 refine gA 4 rfl ?_
 exact Q5 <| ⟨rfl,Qf (Qk rfl rfl) (kS rfl rfl) (fun i hi=>by simp [Qa] at hi ⊢; omega)⟩
theorem bd159b (l:List V3) (hr:l.length<=100) (p:Pl) (s:HS) (hl:s.2.length<=3000000) (o:Loop) (lb:Nat):AW Tryz.prog 35 [900,1006,904,1005,1008] (some lb) bd159 (fun e F' H'=>e = .normal/\Weak 35 [900,1006,904,1005,1008] F' H' [] [(900,.lp o [(17,.fn (.func 247) [.rp [.rs 3 (l.map cV)]]),(1,.rp [.rs 3 (l.map cV)]),(5,.ptr 1005 0 0),(6,.ptr 1006 0 0)]),(1006,.cells 85 1 [[.sl 906 0 (XA l s p).2.length]] false),(906,.cells 129 4 (((XA l s p).2).map cPl) true),(1005,.cells 278 1 [[.mp 1008]] false),(1008,.mset (((XA l s p).1).map plK)),(904,.dead)]) [(7,.ptr 7 0 0),(1,.rp [.rs 3 (l.map cV)]),(5,.ptr 1005 0 0),(6,.ptr 1006 0 0)] [(900,.lp o [(17,.fn (.func 247) [.rp [.rs 3 (l.map cV)]]),(1,.rp [.rs 3 (l.map cV)]),(5,.ptr 1005 0 0),(6,.ptr 1006 0 0)]),(1006,.cells 85 1 [[.sl 904 0 (s).2.length]] false),(904,.cells 129 4 (((s).2).map cPl) true),(1005,.cells 278 1 [[.mp 1008]] false),(1008,.mset (((s).1).map plK)),(7,.cells 129 4 [cPl p] true)]:=by
 delta bd159
 refine gA 6 rfl (rs_mhas (l:=plK p) rfl rfl rfl rfl rfl rfl (plK_len s.1) ?_)
 cases h21:decide (plK p∈s.1.map plK)
 ·skip
  refine gR 7 rfl (rs_mapadd (l:=plK p) rfl rfl rfl rfl rfl rfl rfl (plK_len s.1) (of_decide_eq_false h21) (gR 5 rfl (cN rfl rfl (vc206 l p (by omega)) ?_)))
  cases h26:beyS l p
  ·skip
   refine gR 6 rfl (bM cPl (([p]:List Pl)) (by kernel_rfl) (gR 0 rfl (apM cPl (y:=p) rfl (by omega) rfl (gR 2 rfl ?_))))
   rw [af_3 h21 h26]
   exact Q5 <| ⟨rfl,(Weak.trans (F1:=[]) (H1:=[(900,.lp o [(17,.fn (.func 247) [.rp [.rs 3 (l.map cV)]]),(1,.rp [.rs 3 (l.map cV)]),(5,.ptr 1005 0 0),(6,.ptr 1006 0 0)]),(1006,.cells 85 1 [[.sl 31 0 ((s.1++[p],s.2++[p])).2.length]] false),(31,.cells 129 4 ((((s.1++[p],s.2++[p])).2).map cPl) true),(1005,.cells 278 1 [[.mp 1008]] false),(1008,.mset ((((s.1++[p],s.2++[p])).1).map plK)),(904,.dead)]) (Qf (.nil) (.keep (rfl) rfl (.keep (by dsimp only; rw [len_snoc]; rfl) rfl (.keep (rfl) rfl (.keep (rfl) rfl (.keep (by dsimp only; rw [snocK]; rfl) rfl (kS rfl rfl)))))) (fun i hi=>by simp [Qa] at hi ⊢; omega)) (Weak.trans (F1:=[]) (Q0 (i:=31) (i':=906) (k:=1006) rfl rfl (.nil) (by decide) rfl (.sl _ _)) (Qf (.nil) (kS rfl rfl) (fun i hi=>by simp [Qa] at hi ⊢; omega))))⟩
  ·skip
   refine gR 4 rfl ?_
   rw [af_2 h21 h26]
   exact Q5 <| ⟨rfl,(Weak.trans (F1:=[]) (H1:=[(900,.lp o [(17,.fn (.func 247) [.rp [.rs 3 (l.map cV)]]),(1,.rp [.rs 3 (l.map cV)]),(5,.ptr 1005 0 0),(6,.ptr 1006 0 0)]),(1006,.cells 85 1 [[.sl 904 0 ((s.1++[p],s.2)).2.length]] false),(904,.cells 129 4 ((((s.1++[p],s.2)).2).map cPl) true),(1005,.cells 278 1 [[.mp 1008]] false),(1008,.mset ((((s.1++[p],s.2)).1).map plK))]) (Qf (.nil) (.keep (rfl) rfl (.keep (rfl) rfl (.keep (rfl) rfl (.keep (rfl) rfl (.keep (by dsimp only; rw [snocK]; rfl) rfl (.nil)))))) (fun i hi=>by simp [Qa] at hi ⊢; omega)) (Weak.trans (F1:=[]) (Q0 (i:=904) (i':=906) (k:=1006) rfl rfl (.nil) (by decide) rfl (.sl _ _)) (Qf (.nil) (kS rfl rfl) (fun i hi=>by simp [Qa] at hi ⊢; omega))))⟩
 ·skip
  refine gR 3 rfl ?_
  rw [af_1 h21]
  exact Q5 <| ⟨rfl,(Weak.trans (F1:=[]) (H1:=[(900,.lp o [(17,.fn (.func 247) [.rp [.rs 3 (l.map cV)]]),(1,.rp [.rs 3 (l.map cV)]),(5,.ptr 1005 0 0),(6,.ptr 1006 0 0)]),(1006,.cells 85 1 [[.sl 904 0 (s).2.length]] false),(904,.cells 129 4 (((s).2).map cPl) true),(1005,.cells 278 1 [[.mp 1008]] false),(1008,.mset (((s).1).map plK))]) (Qf (.nil) (kS rfl rfl) (fun i hi=>by simp [Qa] at hi ⊢; omega)) (Weak.trans (F1:=[]) (Q0 (i:=904) (i':=906) (k:=1006) rfl rfl (.nil) (by decide) rfl (.sl _ _)) (Qf (.nil) (kS rfl rfl) (fun i hi=>by simp [Qa] at hi ⊢; omega))))⟩
theorem y159b (l:List V3) (hr:l.length<=100) (p:Pl) (s:HS) (hl:s.2.length<=3000000) (r0:Loop) (h:Rec0 Tryz.prog 35 [18] as159 bd159 r0) :
  FCg (XB Tryz.prog) [.yl 900,.agg (cPl p)] [(900,.lp r0 [(17,.fn (.func 247) [.rp [.rs 3 (l.map cV)]]),(1,.rp [.rs 3 (l.map cV)]),(5,.ptr 1005 0 0),(6,.ptr 1006 0 0)]),(1006,.cells 85 1 [[.sl 904 0 (s).2.length]] false),(904,.cells 129 4 (((s).2).map cPl) true),(1005,.cells 278 1 [[.mp 1008]] false),(1008,.mset (((s).1).map plK))] (.bool true) [(900,.lp r0 [(17,.fn (.func 247) [.rp [.rs 3 (l.map cV)]]),(1,.rp [.rs 3 (l.map cV)]),(5,.ptr 1005 0 0),(6,.ptr 1006 0 0)]),(1006,.cells 85 1 [[.sl 906 0 (XA l s p).2.length]] false),(906,.cells 129 4 (((XA l s p).2).map cPl) true),(1005,.cells 278 1 [[.mp 1008]] false),(1008,.mset (((XA l s p).1).map plK)),(904,.dead)] true:=by
 have:=Jm (P:=Tryz.prog) (F:=[(17,.fn (.func 247) [.rp [.rs 3 (l.map cV)]]),(1,.rp [.rs 3 (l.map cV)]),(5,.ptr 1005 0 0),(6,.ptr 1006 0 0)]) (N:=35) (x:=as159) (y:=bd159) h.ca h.cb (li:=900) (ps:=[18]) (vs:=[.agg (cPl p)]) (J:=[(1006,.cells 85 1 [[.sl 904 0 (s).2.length]] false),(904,.cells 129 4 (((s).2).map cPl) true),(1005,.cells 278 1 [[.mp 1008]] false),(1008,.mset (((s).1).map plK))]) (J1:=[(1006,.cells 85 1 [[.sl 904 0 (s).2.length]] false),(904,.cells 129 4 (((s).2).map cPl) true),(1005,.cells 278 1 [[.mp 1008]] false),(1008,.mset (((s).1).map plK)),(7,.cells 129 4 [cPl p] true)]) (J':=[(1006,.cells 85 1 [[.sl 906 0 (XA l s p).2.length]] false),(906,.cells 129 4 (((XA l s p).2).map cPl) true),(1005,.cells 278 1 [[.mp 1008]] false),(1008,.mset (((XA l s p).1).map plK)),(904,.dead)]) (Fb:=[(7,.ptr 7 0 0),(1,.rp [.rs 3 (l.map cV)]),(5,.ptr 1005 0 0),(6,.ptr 1006 0 0)]) (Z0:=[900,1006,904,1005,1008]) .normal none (.inl ⟨rfl,rfl⟩)
  rfl rfl (fun i hi=>Qp.1 hi) (by simp) (fun i h=>Qp.2 h) (fun i hi=>Qp.1 (by simp [Qa] at hi ⊢; omega)) h.state h.params rfl rfl h.size (fun t v h=>Js h) (fun lb o=>as159b l hr p s hl o lb) (fun lb o=>bd159b l hr p s hl o lb)
 rw [rec_same h.state h.pending] at this
 exact this
def mch205:MC:=(sq [oN 1 (.box 67 1 0) [],oN 2 (.mv (.c .nilf)) []] (sq [oN 3 (.mkfn (.func 247) [1]) [],oM 2 3 [0,0]] .ret))
theorem mcOkh205:(match Tryz.f205.body with | some c=>Qq Tryz.prog 4 c | none=>none)=some mch205:=by kernel_rfl
theorem vc205 (l:List V3):FC Tryz.prog 205 [.rs 3 (l.map cV)] [] (.fn (.func 247) [.rp [.rs 3 (l.map cV)]]) [] true:=by
 refine Qh (nt:=4) Tryz.func205 rfl rfl mcOkh205 (nL rfl) ?_
 delta mch205
 refine gA 11 rfl ?_
 exact Q5 <| Xg rfl (rc_fnr (.cons (XJ rfl rfl (.inl rfl)) .nil)) .nil
def mch247:MC:=(sq [oD 8 1 1 [],oE 9 8 [0],oN 10 (.mv (cI 0)) []] (.block 0 (.loop (sq [oB 11 .lss 10 9 []] (.seq (.cond 11 .skip (.exit 0)) (.seq (.block 1 (sq [oM 12 10 [],oM 3 12 [0,0]] (sq [oD 13 1 1 [],oM 14 3 [],oN 15 (.slc 3 13 none (some 14)) [0,1],oE 16 15 [2],oN 17 (.mv (cI 0)) []] (.block 2 (.loop (sq [oB 18 .lss 17 16 []] (.seq (.cond 18 .skip (.exit 2)) (.seq (.block 3 (sq [oM 19 17 [],oM 4 19 [0,0]] (sq [oD 20 1 1 [],oM 21 4 [],oN 22 (.slc 3 20 none (some 21)) [0,1],oE 23 22 [2],oN 24 (.mv (cI 0)) []] (.block 4 (.loop (sq [oB 25 .lss 24 23 []] (.seq (.cond 25 .skip (.exit 4)) (.seq (.block 5 (sq [oM 26 24 [],oM 5 26 [0,0]] (dq [oD 28 1 1 [],oM 29 5 [],oX 30 3 28 29 [0,1],oL 31 3 30 [2],oD 32 1 1 [],oM 33 4 [],oX 34 3 32 33 [4,5],oL 35 3 34 [6],oD 36 1 1 [],oM 37 3 [],oX 38 3 36 37 [8,9],oL 39 3 38 [10],oQ 40 248 [31,35,39] [3,7,11],oM 27 40 [12],oN 41 (.ext 27 0) [13],oN 42 (.ext 27 1) [13],oN 6 (.alloc 129 4 (iz 4)) [],oS 4 6 41 [16,14,12,0,1,2,3,4,5,6,7,8,9,10,11,12,13,14,16],oM 7 42 (15::17::up 18)] (sq [oM 43 7 [],oM 44 43 [0],pM 45 0 44 true [1],oG 46 (.ld true 4 6) 44 true [1],oG 47 (.callv 45 [46]) 44 true [2,3,1,1],oG 48 (.un .not 47) 44 true [4,1],pM 49 48 44 true [5,4,1],pM 50 0 49 false [6],oG 51 (.ld true 4 6) 49 false [6],oG 52 (.call 249 [51]) 49 false [8,6,6],oG 53 (.callv 50 [52]) 49 false [7,9,9,6],oG 54 (.un .not 53) 49 false [10,6],oG 55 (.pick 49 (.c (.bool true)) 54) 44 true [6,11,1],oN 56 (.pick 44 55 (.c (.bool false))) [1,12]] (.cond 56 .ret .skip))))) (rg [oB 57 .add 24 (cI 1) [],oM 24 57 [0]]))))))))) (rg [oB 58 .add 17 (cI 1) [],oM 17 58 [0]]))))))))) (rg [oB 59 .add 10 (cI 1) [],oM 10 59 [0]])))))))
theorem mcOkh247:(match Tryz.f247.body with | some c=>Qq Tryz.prog 60 c | none=>none)=some mch247:=by kernel_rfl
theorem vc247 (l:List V3) (hr:l.length<=100) (hin:∀ v∈l,inS v=true) (r0:Loop) (h:Rec0 Tryz.prog 35 [18] as159 bd159 r0):FC Tryz.prog 247 [.yl 900,.rp [.rs 3 (l.map cV)]] [(900,.lp r0 [(17,.fn (.func 247) [.rp [.rs 3 (l.map cV)]]),(1,.rp [.rs 3 (l.map cV)]),(5,.ptr 1005 0 0),(6,.ptr 1006 0 0)]),(1006,.cells 85 1 [[.sl 901 0 ((([],[]):HS)).2.length]] false),(901,.cells 129 4 ((((([],[]):HS)).2).map cPl) true),(1005,.cells 278 1 [[.mp 1008]] false),(1008,.mset ((((([],[]):HS)).1).map plK))] (.tup []) [(900,.lp r0 [(17,.fn (.func 247) [.rp [.rs 3 (l.map cV)]]),(1,.rp [.rs 3 (l.map cV)]),(5,.ptr 1005 0 0),(6,.ptr 1006 0 0)]),(1006,.cells 85 1 [[.sl 903 0 ((topF l l.length)).2.length]] false),(903,.cells 129 4 ((((topF l l.length)).2).map cPl) true),(1005,.cells 278 1 [[.mp 1008]] false),(1008,.mset ((((topF l l.length)).1).map plK)),(901,.dead)] true:=by
 refine Qh (nt:=60) Tryz.func247 rfl rfl mcOkh247 (nL rfl) ?_
 delta mch247
 refine gA 3 rfl (Q1 rfl rfl (gR 3 rfl ?_))
 refine Xv (α:=Nat×HS) (fun u=>l.length-u.1) (fun u=>[(0,.yl 900),(1,.rp [.rs 3 (l.map cV)]),(8,.rs 3 (l.map cV)),(9,iv (l.length:Int)),(10,iv (((u.1):Nat):Int))]) (fun u=>[(900,.lp r0 [(17,.fn (.func 247) [.rp [.rs 3 (l.map cV)]]),(1,.rp [.rs 3 (l.map cV)]),(5,.ptr 1005 0 0),(6,.ptr 1006 0 0)]),(1006,.cells 85 1 [[.sl 903 0 (u.2).2.length]] false),(903,.cells 129 4 (((u.2).2).map cPl) true),(1005,.cells 278 1 [[.mp 1008]] false),(1008,.mset (((u.2).1).map plK)),(901,.dead)]) (fun u=>u.1<=l.length/\u.2=topF l u.1) (0,([],[])) (⟨Nat.zero_le _,rfl⟩)
  ((Weak.trans (F1:=[(0,.yl 900),(1,.rp [.rs 3 (l.map cV)]),(8,.rs 3 (l.map cV)),(9,iv (l.length:Int)),(10,iv (((0):Nat):Int))]) (H1:=[(900,.lp r0 [(17,.fn (.func 247) [.rp [.rs 3 (l.map cV)]]),(1,.rp [.rs 3 (l.map cV)]),(5,.ptr 1005 0 0),(6,.ptr 1006 0 0)]),(1006,.cells 85 1 [[.sl 901 0 ((([],[]):HS)).2.length]] false),(901,.cells 129 4 ((((([],[]):HS)).2).map cPl) true),(1005,.cells 278 1 [[.mp 1008]] false),(1008,.mset ((((([],[]):HS)).1).map plK))]) (Qf (Qk rfl rfl) (kS rfl rfl) (fun i hi=>by simp [Qa] at hi ⊢; omega)) (Weak.trans (F1:=[(0,.yl 900),(1,.rp [.rs 3 (l.map cV)]),(8,.rs 3 (l.map cV)),(9,iv (l.length:Int)),(10,iv (((0):Nat):Int))]) (Q0 (i:=901) (i':=903) (k:=1006) rfl rfl (.cons rfl (.same _) (.cons rfl (.same _) (.cons rfl (.same _) (.cons rfl (.same _) (.cons rfl (.same _) (.nil)))))) (by decide) rfl (.sl _ _)) (Qf (Qk rfl rfl) (kS rfl rfl) (fun i hi=>by simp [Qa] at hi ⊢; omega))))) ?_
 rintro ⟨i,s⟩ ⟨hi,hs⟩
 dsimp only at hi hs ⊢
 refine gT 5 rfl (Qc rfl (fun h11=>?_) (fun h11=>?_))
 ·refine gK 10 rfl ?_
  obtain ⟨c,hck,hcm⟩:=Q8 (L:=l) (k:=i) (by omega)
  refine gI 2 rfl (rs_slc_r (l:=0) (q:=(i:Int)) (els':=(l.take i).map cV) rfl rfl rfl rfl rfl (by omega) (by first | (simp; done) | (simp; omega)) (by first | (simp; done) | (simp; omega)) (slc_take l i (by omega) rfl) (gR 0 rfl (JL (n:=i) rfl rfl (by simp; omega) (gR 3 rfl ?_))))
  refine Xv (α:=Nat×HS) (fun u=>i-u.1) (fun u=>[(0,.yl 900),(1,.rp [.rs 3 (l.map cV)]),(8,.rs 3 (l.map cV)),(9,iv (l.length:Int)),(10,iv (((i):Nat):Int)),(3,iv (((i):Nat):Int)),(15,.rs 3 ((l.take i).map cV)),(16,iv ((i:Nat):Int)),(17,iv (((u.1):Nat):Int))]) (fun u=>[(900,.lp r0 [(17,.fn (.func 247) [.rp [.rs 3 (l.map cV)]]),(1,.rp [.rs 3 (l.map cV)]),(5,.ptr 1005 0 0),(6,.ptr 1006 0 0)]),(1006,.cells 85 1 [[.sl 903 0 (u.2).2.length]] false),(903,.cells 129 4 (((u.2).2).map cPl) true),(1005,.cells 278 1 [[.mp 1008]] false),(1008,.mset (((u.2).1).map plK)),(901,.dead)]) (fun u=>u.1<=i/\u.2=mdlF l c s u.1) (0,s) (⟨Nat.zero_le _,rfl⟩)
   (Qf (Qk rfl rfl) (kS rfl rfl) (fun i hi=>by simp [Qa] at hi ⊢; omega)) ?_
  rintro ⟨j,m⟩ ⟨hj,hm⟩
  dsimp only at hj hm ⊢
  refine gT 5 rfl (Qc rfl (fun h18=>?_) (fun h18=>?_))
  ·refine gK 10 rfl ?_
   obtain ⟨b,hbk,hbm⟩:=Q8 (L:=l) (k:=j) (by omega)
   refine gI 2 rfl (rs_slc_r (l:=0) (q:=(j:Int)) (els':=(l.take j).map cV) rfl rfl rfl rfl rfl (by omega) (by first | (simp; done) | (simp; omega)) (by first | (simp; done) | (simp; omega)) (slc_take l j (by omega) rfl) (gR 0 rfl (JL (n:=j) rfl rfl (by simp; omega) (gR 3 rfl ?_))))
   refine Xv (α:=Nat×HS) (fun u=>j-u.1) (fun u=>[(0,.yl 900),(1,.rp [.rs 3 (l.map cV)]),(8,.rs 3 (l.map cV)),(9,iv (l.length:Int)),(10,iv (((i):Nat):Int)),(3,iv (((i):Nat):Int)),(15,.rs 3 ((l.take i).map cV)),(16,iv ((i:Nat):Int)),(17,iv (((j):Nat):Int)),(4,iv (((j):Nat):Int)),(22,.rs 3 ((l.take j).map cV)),(23,iv ((j:Nat):Int)),(24,iv (((u.1):Nat):Int))]) (fun u=>[(900,.lp r0 [(17,.fn (.func 247) [.rp [.rs 3 (l.map cV)]]),(1,.rp [.rs 3 (l.map cV)]),(5,.ptr 1005 0 0),(6,.ptr 1006 0 0)]),(1006,.cells 85 1 [[.sl 903 0 (u.2).2.length]] false),(903,.cells 129 4 (((u.2).2).map cPl) true),(1005,.cells 278 1 [[.mp 1008]] false),(1008,.mset (((u.2).1).map plK)),(901,.dead)]) (fun u=>u.1<=j/\u.2=innF l b c m u.1) (0,m) (⟨Nat.zero_le _,rfl⟩)
    (Qf (Qk rfl rfl) (kS rfl rfl) (fun i hi=>by simp [Qa] at hi ⊢; omega)) ?_
   rintro ⟨k,v⟩ ⟨hk,hv⟩
   dsimp only at hk hv ⊢
   refine gT 5 rfl (Qc rfl (fun h25=>?_) (fun h25=>?_))
   ·refine gK 10 rfl ?_
    obtain ⟨a,hak,ham⟩:=Q8 (L:=l) (k:=k) (by omega)
    obtain ⟨_,hb1,hb2⟩:=thP_bd (hin a ham) (hin b hbm) (hin c hcm)
    have q1:s.2.length<=2*100*100*i:=by rw [hs]; exact topF_len l 100 i (by omega)
    have q2:m.2.length<=s.2.length+2*100*j:=by rw [hm]; exact mdlF_len l c s 100 j (by omega)
    have q3:v.2.length<=m.2.length+2*k:=by rw [hv]; exact innF_len l b c m k
    have q4:=accF_len l v (thP a b c)
    refine gI 2 rfl (QH (f:=cV) rfl rfl rfl (by omega) hak (gR 0 rfl (Ja (cs:=cV a) rfl rfl (nL rfl) rfl (gR 2 rfl (QH (f:=cV) rfl rfl rfl (by omega) hbk (gR 0 rfl (Ja (cs:=cV b) rfl rfl (nL rfl) rfl (gR 2 rfl (QH (f:=cV) rfl rfl rfl (by omega) hck (gR 0 rfl (Ja (cs:=cV c) rfl rfl (nL rfl) rfl ?_)))))))))))
    refine gR 0 rfl (cN rfl rfl (vc248 a b c (hin a ham) (hin b hbm) (hin c hcm)) (gR 3 rfl ?_))
    cases h42:thB a b c
    ·skip
     refine gI 3 rfl (Xa (by kernel_rfl) (gP 20 rfl (Qm rfl rfl rfl (by omega) (gR 2 rfl ?_))))
     exact X9 <| ⟨(k+1,v),⟨by show k+1<=_; omega,by show v=triF l (innF l b c m k) (l.getD k dV) b c; rw [getD_at hak,← hv,tri_n h42]⟩,by show _-(k+1)<_; omega,Qf (Qk rfl rfl) (kS rfl rfl) (fun i hi=>by simp [Qa] at hi ⊢; omega)⟩
    ·skip
     refine gI 3 rfl (Xa (by kernel_rfl) (gP 6 rfl (rs_yield [(900,.lp r0 [(17,.fn (.func 247) [.rp [.rs 3 (l.map cV)]]),(1,.rp [.rs 3 (l.map cV)]),(5,.ptr 1005 0 0),(6,.ptr 1006 0 0)]),(1006,.cells 85 1 [[.sl 903 0 (v).2.length]] false),(903,.cells 129 4 (((v).2).map cPl) true),(1005,.cells 278 1 [[.mp 1008]] false),(1008,.mset (((v).1).map plK))] rfl rfl rfl (y159a l hr (thP a b c) v (by omega) r0 h) (.cons (Ql rfl) (.cons (Ql rfl) (.nil))) (.cons rfl (.cons rfl (.cons rfl (.cons rfl (.cons rfl (.nil)))))) rfl rfl rfl (gR 4 rfl (cN rfl rfl (vc249 (thP a b c) ⟨by omega,by omega⟩) (gR 0 rfl (rs_yield [(900,.lp r0 [(17,.fn (.func 247) [.rp [.rs 3 (l.map cV)]]),(1,.rp [.rs 3 (l.map cV)]),(5,.ptr 1005 0 0),(6,.ptr 1006 0 0)]),(1006,.cells 85 1 [[.sl 904 0 ((XA l v (thP a b c))).2.length]] false),(904,.cells 129 4 ((((XA l v (thP a b c))).2).map cPl) true),(1005,.cells 278 1 [[.mp 1008]] false),(1008,.mset ((((XA l v (thP a b c))).1).map plK))] rfl rfl rfl (y159b l hr (flipH (thP a b c)) (XA l v (thP a b c)) (by omega) r0 h) (.cons (Ql rfl) (.cons (Ql rfl) (.nil))) (.cons rfl (.cons rfl (.cons rfl (.cons rfl (.cons rfl (.nil)))))) rfl rfl rfl (gR 7 rfl (Qm rfl rfl rfl (by omega) (gR 2 rfl ?_))))))))))
     exact X9 <| ⟨(k+1,(XA l (XA l v (thP a b c)) (flipH (thP a b c)))),⟨by show k+1<=_; omega,by show _=triF l (innF l b c m k) (l.getD k dV) b c; rw [getD_at hak,← hv,tri_y h42]⟩,by show _-(k+1)<_; omega,(Weak.trans (F1:=[(0,.yl 900),(1,.rp [.rs 3 (l.map cV)]),(8,.rs 3 (l.map cV)),(9,iv (l.length:Int)),(10,iv (((i):Nat):Int)),(3,iv (((i):Nat):Int)),(15,.rs 3 ((l.take i).map cV)),(16,iv ((i:Nat):Int)),(17,iv (((j):Nat):Int)),(4,iv (((j):Nat):Int)),(22,.rs 3 ((l.take j).map cV)),(23,iv ((j:Nat):Int)),(24,iv (((k+1):Nat):Int))]) (H1:=[(900,.lp r0 [(17,.fn (.func 247) [.rp [.rs 3 (l.map cV)]]),(1,.rp [.rs 3 (l.map cV)]),(5,.ptr 1005 0 0),(6,.ptr 1006 0 0)]),(1006,.cells 85 1 [[.sl 906 0 ((XA l (XA l v (thP a b c)) (flipH (thP a b c)))).2.length]] false),(906,.cells 129 4 ((((XA l (XA l v (thP a b c)) (flipH (thP a b c)))).2).map cPl) true),(1005,.cells 278 1 [[.mp 1008]] false),(1008,.mset ((((XA l (XA l v (thP a b c)) (flipH (thP a b c)))).1).map plK)),(901,.dead)]) (Qf (Qk rfl rfl) (kS rfl rfl) (fun i hi=>by simp [Qa] at hi ⊢; omega)) (Weak.trans (F1:=[(0,.yl 900),(1,.rp [.rs 3 (l.map cV)]),(8,.rs 3 (l.map cV)),(9,iv (l.length:Int)),(10,iv (((i):Nat):Int)),(3,iv (((i):Nat):Int)),(15,.rs 3 ((l.take i).map cV)),(16,iv ((i:Nat):Int)),(17,iv (((j):Nat):Int)),(4,iv (((j):Nat):Int)),(22,.rs 3 ((l.take j).map cV)),(23,iv ((j:Nat):Int)),(24,iv (((k+1):Nat):Int))]) (Q0 (i:=906) (i':=903) (k:=1006) rfl rfl (.cons rfl (.same _) (.cons rfl (.same _) (.cons rfl (.same _) (.cons rfl (.same _) (.cons rfl (.same _) (.cons rfl (.same _) (.cons rfl (.same _) (.cons rfl (.same _) (.cons rfl (.same _) (.cons rfl (.same _) (.cons rfl (.same _) (.cons rfl (.same _) (.cons rfl (.same _) (.nil)))))))))))))) (by decide) rfl (.sl _ _)) (Qf (Qk rfl rfl) (kS rfl rfl) (fun i hi=>by simp [Qa] at hi ⊢; omega))))⟩
   ·refine gK 2 rfl (Qm rfl rfl rfl (by omega) (gR 2 rfl ?_))
    exact X9 <| ⟨(j+1,v),⟨by show j+1<=_; omega,by show v=innF l (l.getD j dV) c (mdlF l c s j) j; rw [getD_at hbk,← hm,hv,show k=j by omega]⟩,by show _-(j+1)<_; omega,Qf (Qk rfl rfl) (kS rfl rfl) (fun i hi=>by simp [Qa] at hi ⊢; omega)⟩
  ·refine gK 2 rfl (Qm rfl rfl rfl (by omega) (gR 2 rfl ?_))
   exact X9 <| ⟨(i+1,m),⟨by show i+1<=_; omega,by show m=mdlF l (l.getD i dV) (topF l i) i; rw [getD_at hck,← hs,hm,show j=i by omega]⟩,by show _-(i+1)<_; omega,Qf (Qk rfl rfl) (kS rfl rfl) (fun i hi=>by simp [Qa] at hi ⊢; omega)⟩
 ·refine gK 1 rfl ?_
  have e:s=topF l l.length:=by rw [hs,show i=l.length by omega]
  subst e
  exact Q5 <| ret_own_e (by first | exact .inl rfl | exact .inr rfl) rfl sm (kS rfl rfl) (.cons rfl rfl rfl (.cons rfl rfl rfl (.dead rfl rfl (.cons rfl rfl rfl (.cons rfl rfl rfl (.nil))))))
end Go.Proofs.YthmbjgnjfjjibaaGreatDoor
namespace Go.Proofs.YthmbjgnjfjjibaaGreatDoor
open Go.RowKit
set_option maxRecDepth 100000
def mch159:MC:=(sq [oN 1 (.box 67 1 0) [],oN 2 (.mv (.c .nils)) [],oN 3 (.mv (cI 0)) [1]] (.seq (sq [oD 8 1 1 [],oQ 9 174 [8] [0],oM 4 9 [1,1,0,1]] (sq [oM 10 4 [],oB 11 .neq 10 (cI 0) [0]] (.cond 11 (sq [oM 12 4 [],oN 2 (.mv (.c .nils)) [],oM 3 12 [0,1,0,1]] .ret) .skip))) (sq [oD 13 1 1 [],oQ 14 204 [13] [0],oS 1 1 14 [1,1,0,1]] (sq [oN 15 .mkmap [],oN 5 (.alloc 278 1 [.nilm]) [],oS 1 5 15 [1,0,0,1]] (sq [oN 6 (.alloc 85 1 [.nils]) []] (.seq (sq [oD 16 1 1 [],oQ 17 205 [16] [0]] (.block 0 (.rfunc 17 [18] (rg [oN 7 (.alloc 129 4 (iz 4)) [],oS 4 7 18 [0,0]]) (.block 1 (.seq (sq [oD 19 1 5 [],oL 20 4 7 [],oN 21 (.mhas 4 19 20) [0,1]] (.cond 21 (.exit 1) .skip)) (sq [oD 22 1 5 [],oL 23 4 7 [],⟨none,(.mapadd 4 22 23 (.c (.bool true))),none,[0,1,0,1]⟩] (sq [oD 24 1 1 [],oL 25 4 7 [],oQ 26 206 [24,25] [0,1],oN 27 (.un .not 26) [2]] (.cond 27 (rg [oD 28 1 6 [],oL 29 4 7 [],oN 30 (.bslice 129 4 (iz 4) 1 [(0,29)]) [1],oN 31 (.app 129 4 32 (iz 4) 28 30) [0,2],oS 1 6 31 (3::3::up 4)]) .skip)))))))) (sq [oD 32 1 6 [],oQ 33 207 [32,(.c (.fn (.func 208) []))] [0]] (sq [oD 34 1 6 [],oM 2 34 [0,0],oN 3 (.mv (cI 0)) [1,0,1]] .ret))))))))
theorem mcOkh159:(match Tryz.f159.body with | some c=>Qq Tryz.prog 35 c | none=>none)=some mch159:=by kernel_rfl
theorem hc159 (l l':List V3) (fs:List Pl) (rv:AV) (hr:l'.length<=100) (hin:∀ v∈l',inS v=true) (hchk:FC Tryz.prog 174 [.rs 3 (l.map cV)] [] (iv 0) [] false) (hdis:FC Tryz.prog 204 [.rs 3 (l.map cV)] [] (.rs 3 (l'.map cV)) [] false) (hsort:FC Tryz.prog 207 [.sl 903 0 (topF l' l'.length).2.length,.fn (.func 208) []] [(903,.cells 129 4 (((topF l' l'.length).2).map cPl) true)] rv [(903,.cells 129 4 ((fs).map cPl) true)] true) (hlen:(topF l' l'.length).2.length=fs.length):FC Tryz.prog 159 [.rs 3 (l.map cV)] [] (.tup [.rs 4 (fs.map cPl),iv 0]) [] false:=by
 refine Qh (nt:=35) Tryz.func159 rfl rfl mcOkh159 (nL rfl) ?_
 delta mch159
 refine gA 10 rfl (cN rfl rfl (hchk) (gR 5 rfl (Xo rfl rfl rfl rfl (fun h=>h rfl) (gR 6 rfl (cN rfl rfl (hdis) (gR 4 rfl (rs_mkmap rfl rfl (gR 11 rfl (clO rfl (vc205 l') rfl (gR 2 rfl (QC (F0:=[(17,.fn (.func 247) [.rp [.rs 3 (l'.map cV)]]),(1,.rp [.rs 3 (l'.map cV)]),(5,.ptr 1005 0 0),(6,.ptr 1006 0 0)]) (H0:=[(1006,.cells 85 1 [[.sl 901 0 ((([],[]):HS)).2.length]] false),(901,.cells 129 4 ((((([],[]):HS)).2).map cPl) true),(1005,.cells 278 1 [[.mp 1008]] false),(1008,.mset ((((([],[]):HS)).1).map plK))]) (Weak.trans (F1:=[(17,.fn (.func 247) [.rp [.rs 3 (l'.map cV)]]),(1,.rp [.rs 3 (l'.map cV)]),(5,.ptr 5 0 0),(6,.ptr 6 0 0)]) (H1:=[(6,.cells 85 1 [[.nils]] true),(5,.cells 278 1 [[.mp 15]] false),(15,.mset [])]) (Qf (.cs (.cons rfl (XJ rfl rfl (.inl rfl)) (.cs (.cs (.nil))))) (kS rfl rfl) (fun i h=>by cases h)) (Weak.trans (F1:=[(17,.fn (.func 247) [.rp [.rs 3 (l'.map cV)]]),(1,.rp [.rs 3 (l'.map cV)]),(5,.ptr 5 0 0),(6,.ptr 6 0 0)]) (H1:=[(6,.cells 85 1 [[.nils]] true),(5,.cells 278 1 [[.mp 1008]] false),(1008,.mset [])]) (Weak.trans (F1:=[(17,.fn (.func 247) [.rp [.rs 3 (l'.map cV)]]),(1,.rp [.rs 3 (l'.map cV)]),(5,.ptr 5 0 0),(6,.ptr 6 0 0)]) (Q0 (i:=15) (i':=1008) (k:=5) rfl rfl (.cons rfl (.same _) (.cons rfl (.same _) (.cons rfl (.same _) (.cons rfl (.same _) (.nil))))) (by decide) rfl .mp) (wkS rfl)) (Weak.trans (F1:=[(17,.fn (.func 247) [.rp [.rs 3 (l'.map cV)]]),(1,.rp [.rs 3 (l'.map cV)]),(5,.ptr 1005 0 0),(6,.ptr 1006 0 0)]) (H1:=[(1006,.cells 85 1 [[.nils]] true),(1005,.cells 278 1 [[.mp 1008]] false),(1008,.mset [])]) (Weak.trans (F1:=[(17,.fn (.func 247) [.rp [.rs 3 (l'.map cV)]]),(1,.rp [.rs 3 (l'.map cV)]),(5,.ptr 5 0 0),(6,.ptr 1006 0 0)]) (H1:=[(1006,.cells 85 1 [[.nils]] true),(5,.cells 278 1 [[.mp 1008]] false),(1008,.mset [])]) (wR 6 1006 (Qk rfl rfl) (kS rfl rfl) rfl) (wR 5 1005 (Qk rfl rfl) (kS rfl rfl) rfl)) (Weak.trans (F1:=[(17,.fn (.func 247) [.rp [.rs 3 (l'.map cV)]]),(1,.rp [.rs 3 (l'.map cV)]),(5,.ptr 1005 0 0),(6,.ptr 1006 0 0)]) (weak_seed (i:=901) (k:=1006) (e:=85) (z:=1) (e2:=129) (z2:=4) (fl:=true) (fl2:=true) rfl rfl) (wkS rfl))))) ?_)))))))))))
 refine aw_rfunc 900 [(1006,.cells 85 1 [[.sl 901 0 ((([],[]):HS)).2.length]] false),(901,.cells 129 4 ((((([],[]):HS)).2).map cPl) true),(1005,.cells 278 1 [[.mp 1008]] false),(1008,.mset ((((([],[]):HS)).1).map plK))] [(1006,.cells 85 1 [[.sl 903 0 ((topF l' l'.length)).2.length]] false),(903,.cells 129 4 ((((topF l' l'.length)).2).map cPl) true),(1005,.cells 278 1 [[.mp 1008]] false),(1008,.mset ((((topF l' l'.length)).1).map plK)),(901,.dead)] (.inl ⟨rfl,rfl⟩) rfl (by kernel_rfl) rfl rfl rfl (.cons rfl (.cons rfl (.cons rfl (.cons rfl (.nil))))) rfl rfl rfl rfl (fun r0 hrec=>⟨r0,(by rw [hrec.state]; intro h; cases h),hrec.pending,vc247 l' hr hin r0 hrec⟩) (gP 3 rfl (clO rfl hsort rfl (gR 8 rfl ?_)))
 rw [hlen]
 exact Q5 <| Xg rfl (rc_tup (.cons (rc_frz (f:=cPl) (xs:=fs) rfl rfl rfl (fun _=>rfl)) (.cons (Xq rfl (.inr rfl)) .nil))) .nil
end Go.Proofs.YthmbjgnjfjjibaaGreatDoor
namespace Go.Proofs.YthmbjgnjfjjibaaGreatDoor
open Go.RowKit
set_option maxRecDepth 100000
def orS:List Int->Int
 | []=>0
 | x::l=>if x≠0 then x else orS l
theorem orS_at {l:List Int} {k:Nat} {x:Int} (h:l[k]?=some x):orS (l.drop k)=if x≠0 then x else orS (l.drop (k+1)):=by rw [Jt h]; rfl
def vcmpS (a b:V3):Int:=orS [JA a.x b.x,JA a.y b.y,JA a.z b.z]
def mch298:MC:=(sq [oN 2 (.mv (.c (.bool false))) []] (sq [oM 3 0 [],oM 4 0 [],oB 5 .neq 3 4 [0,1],oM 2 5 [2,0,1,2]] .ret))
theorem mcOkh298:(match Tryz.f298.body with | some c=>Qq Tryz.prog 6 c | none=>none)=some mch298:=by kernel_rfl
theorem hc298 (a:Int):FC Tryz.prog 298 [iv a] [] (.bool false) [] false:=by
 refine Qh (nt:=6) Tryz.func298 rfl rfl mcOkh298 (nL rfl) ?_
 delta mch298
 refine gA 8 rfl (Xo rfl rfl rfl rfl (fun h=>h rfl) (gR 3 rfl ?_))
 exact rQ
def mch271:MC:=(sq [oN 4 (.mv (cI 0)) []] (sq [oM 7 0 [],oQ 8 298 [7] [0],oM 5 8 [1,1,0,1]] (sq [oM 9 1 [],oQ 10 298 [9] [0],oM 6 10 [1,1,0,1]] (.seq (sq [oM 11 5 []] (.cond 11 (.seq (sq [oM 12 6 []] (.cond 12 (sq [oN 4 (.mv (cI 0)) []] .ret) .skip)) (sq [oN 4 (.mv (cI (-1))) []] .ret)) .skip)) (.seq (sq [oM 13 6 []] (.cond 13 (sq [oN 4 (.mv (cI 1)) []] .ret) .skip)) (.seq (sq [oM 14 0 [],oM 15 1 [],oB 16 .lss 14 15 [0,1]] (.cond 16 (sq [oN 4 (.mv (cI (-1))) []] .ret) .skip)) (.seq (sq [oM 17 0 [],oM 18 1 [],oB 19 .gtr 17 18 [0,1]] (.cond 19 (sq [oN 4 (.mv (cI 1)) []] .ret) .skip)) (sq [oN 4 (.mv (cI 0)) []] .ret))))))))
theorem mcOkh271:(match Tryz.f271.body with | some c=>Qq Tryz.prog 20 c | none=>none)=some mch271:=by kernel_rfl
theorem hc271 (a b:Int):FC Tryz.prog 271 [iv a,iv b] [] (iv (JA a b)) [] false:=by
 refine Qh (nt:=20) Tryz.func271 rfl rfl mcOkh271 (nL rfl) ?_
 delta mch271
 refine gA 7 rfl (cN rfl rfl (hc298 a) (gR 5 rfl (cN rfl rfl (hc298 b) (gR 23 rfl (Qc rfl (fun h16=>?_) (fun h16=>?_))))))
 ·refine gK 5 rfl ?_
  rw [show JA a b = -1 from if_pos (by omega)]
  exact rQ
 ·refine gK 6 rfl (rs_gtr rfl rfl rfl (gR 1 rfl (Qc rfl (fun h19=>?_) (fun h19=>?_))))
  ·refine gK 5 rfl ?_
   rw [show JA a b=1 from by unfold JA; rw [if_neg (by omega),if_pos (by omega)]]
   exact rQ
  ·refine gK 6 rfl ?_
   rw [show JA a b=0 from by unfold JA; rw [if_neg (by omega),if_neg (by omega)]]
   exact rQ
def mch270:MC:=(sq [oN 2 (.mv (cI 0)) []] (sq [oN 3 (.mv (cI 0)) []] (.seq (sq [oM 6 0 [],oE 7 6 [0],oN 8 (.mv (cI 0)) []] (.block 0 (.loop (sq [oB 9 .lss 8 7 []] (.seq (.cond 9 .skip (.exit 0)) (.seq (.block 1 (sq [oX 10 1 6 8 [],oD 11 1 10 [0],oM 5 11 [1,0,1]] (sq [oM 12 5 [],oM 13 3 [],oB 14 .neq 12 13 [0,1]] (.cond 14 (sq [oM 15 5 [],oM 2 15 [0,0]] .ret) .skip)))) (rg [oB 16 .add 8 (cI 1) [],oM 8 16 [0]]))))))) (sq [oM 17 3 [],oM 2 17 [0,0]] .ret))))
theorem mcOkh270:(match Tryz.f270.body with | some c=>Qq Tryz.prog 18 c | none=>none)=some mch270:=by kernel_rfl
theorem hc270 (l:List Int) (hn:l.length<=1000):FC Tryz.prog 270 [ints l] [] (iv (orS l)) [] false:=by
 refine Qh (nt:=18) Tryz.func270 rfl rfl mcOkh270 (nL rfl) ?_
 delta mch270
 refine gA 12 rfl (Q1 rfl rfl (gR 3 rfl ?_))
 refine Xp (α:=Nat) [3,6,7] [] (fun k=>l.length-k) (fun k=>[(8,iv (((k):Nat):Int))]) (fun k=>[]) (fun k=>k<=l.length/\orS (l.drop k)=orS l) 0 (⟨by omega,rfl⟩) rfl (wkS rfl) ?_
 rintro k ⟨hk,hinv⟩
 refine gT 5 rfl (Qc rfl (fun h9=>?_) (fun h9=>?_))
 ·refine gK 5 rfl ?_
  obtain ⟨x,hxk,hxm⟩:=Q8 (L:=l) (k:=k) (by omega)
  rw [orS_at hxk] at hinv
  refine QH (f:=ci) (y:=x) rfl rfl rfl (by omega) hxk (gR 7 rfl (Jv rfl rfl rfl (gR 1 rfl (Qc rfl (fun h14=>?_) (fun h14=>?_)))))
  ·refine gK 6 rfl ?_
   rw [if_pos h14] at hinv
   rw [← hinv]
   exact rQ
  ·refine gK 2 rfl (Qm rfl rfl rfl (by omega) (gR 2 rfl ?_))
   rw [if_neg h14] at hinv
   exact X9 <| ⟨k+1,⟨by omega,hinv⟩,by omega,wkS rfl⟩
 ·refine gK 7 rfl ?_
  rw [List.drop_eq_nil_of_le (by omega)] at hinv
  rw [← hinv]
  exact rQ
def mch245:MC:=(sq [oN 2 (.box 32 3 0) [],oN 3 (.box 32 3 1) [],oN 4 (.mv (cI 0)) []] (dq [oA 5 0 2 [],oD 6 1 5 [0],oA 7 0 3 [],oD 8 1 7 [2],oQ 9 271 [6,8] [1,3],oA 10 1 2 [],oD 11 1 10 [5],oA 12 1 3 [],oD 13 1 12 [7],oQ 14 271 [11,13] [6,8,4],oA 15 2 2 [],oD 16 1 15 [10],oA 17 2 3 [],oD 18 1 17 [12],oQ 19 271 [16,18] [11,13,9],oN 20 (.bslice 3 1 [(iv 0)] 3 [(0,9),(1,14),(2,19)]) [4,9,14],oQ 21 270 [20] [15,14],oM 4 21 (16::16::up 17)] .ret))
theorem mcOkh245:(match Tryz.f245.body with | some c=>Qq Tryz.prog 22 c | none=>none)=some mch245:=by kernel_rfl
theorem hc245 (a b:V3):FC Tryz.prog 245 [aV a,aV b] [] (iv (vcmpS a b)) [] false:=by
 refine Qh (nt:=22) Tryz.func245 rfl rfl mcOkh245 (nL rfl) ?_
 delta mch245
 refine gA 12 rfl (cN rfl rfl (hc271 a.x b.x) (gR 4 rfl (cN rfl rfl (hc271 a.y b.y) (gR 4 rfl (cN rfl rfl (hc271 a.z b.z) (gR 0 rfl (bM ci (([JA a.x b.x,JA a.y b.y,JA a.z b.z]:List Int)) (by kernel_rfl) (gR 0 rfl (XM [20] rfl rfl (hc270 [JA a.x b.x,JA a.y b.y,JA a.z b.z] (by simp)) (.cons (hv_slm (f:=ci) (xs:=[JA a.x b.x,JA a.y b.y,JA a.z b.z]) (by simp) rfl rfl) (.nil)) rfl (gR 1 rfl (Xa (by kernel_rfl) ?_)))))))))))
 refine gP 1 rfl ?_
 exact rQ
end Go.Proofs.YthmbjgnjfjjibaaGreatDoor
namespace Go.Proofs.YthmbjgnjfjjibaaGreatDoor
open Go.RowKit
set_option maxRecDepth 100000
section
variable {P:Program}
theorem dc_caught {g:FuncId} {fn:Func} {i0 bl i1 i2 T T':Nat} {o0 o1 o2:Oper} {ce:Code} {v:AV} {H:Hp} (hf:P.funcs[g]?=some fn) (hb:fn.body=some (.seq (.region i0 #[o0] false) (.block bl (.seq (.region i1 #[o1] false) (.cond (.tmp 7) (.region i2 #[o2] false) ce)))))
  (hn:8<=fn.ntmps) (hr:fn.results = #[]) (g0:o0.guard=none) (g1:o1.guard=none) (g2:o2.guard=none) (d0:o0.dst=some 5) (d1:o1.dst=some 7) (d2:o2.dst=some 2)
  (p0:o0.op = .call { callee:=.builtin .recover,args := #[],argTypes := #[] }) (p1:o1.op = .binOp .eql T (.tmp 5) (.const .nilIface) T') (p2:o2.op = .assign (.tmp 5)) (hT:isIf P T=true):DC P g [v] H:=by
 intro w S ρ A hH hv
 refine callsDIn_of_wpSIn hf hb trivial fun c₀ cs hu=>?_
 have hA:A.size=1:=hv.1
 generalize ha:({ tmps:=A++Array.replicate (fn.ntmps-A.size) undef,defers:=[] }:Act)=a
 have hsz:a.tmps.size=fn.ntmps:=by rw [← ha]; simp [hA]; omega
 have hdf:a.defers=[]:=by rw [← ha]
 have hrec:recoverD (c₀ :: cs)=none:=by simp [recoverD,hu]
 refine wpSIn_seq (wpSIn_region ?_)
 show wpOpsSIn _ _ _ _ _ [0] _ _ _
 simp only [wpOpsSIn]
 show _/\_
 refine ⟨fun _ _=>trivial,?_⟩
 show (if Region.wanted o0 (yielded #[o0] a.tmps)=true then _ else _)
 rw [if_pos (by simp [Region.wanted,g0])]
 have hr0:(execOp a.eval o0).run P w = .ok .recover w:=by simp [execOp,p0,resolve,invoke,builtin]
 have key:(Code.block bl (.seq (.region i1 #[o1] false) (.cond (.tmp 7) (.region i2 #[o2] false) ce))).wpSIn Fence.wide 0 P (bodyPostS P fn c₀ cs fun e u' w'=>u' = .returning/\(∃ cv,e = .returned cv)/\∃ S' ρ',HRF w' S' ρ' (get H)/\Keep w w' (LiveF ρ (get H) All)/\(∀ b,S b->S' b) ∧
   (∀ b,S' b->S b\/LiveF ρ (get H) All b\/w.heap.size<=b)/\(∀ b,LiveF ρ' (get H) All b->LiveF ρ (get H) All b\/w.heap.size<=b)/\(∀ i,get H i≠none->ρ' i=ρ i)) (a.put o0.dst .nilIface) (c₀ :: cs) w:=by
  rw [d0]
  have e5:(a.put (some 5) .nilIface).tmps.getD 5 undef = .nilIface:=by rw [put_getD (by rw [hsz]; omega)]; simp
  generalize hb1:a.put (some 5) .nilIface=b1 at e5
  have hs1:b1.tmps.size=fn.ntmps:=by rw [← hb1,put_size]; exact hsz
  have hd1:b1.defers=[]:=by rw [← hb1,put_defers]; exact hdf
  refine wpSIn_of_wpIn rfl (wpIn_block (wpIn_seq (one_op (N:=0) (rn:=none) g1 ⟨fun _ _=>trivial,?_⟩)))
  obtain ⟨ms,hu1⟩:=isIf_spec hT
  have hu':P.underlying T=some (.interface (P.methodsAt T)):=by rw [hu1]; simp [Program.methodsAt,hu1]
  have hr1:(o1.semAt Fence.wide.round b1.eval).run P w = .ok (.value (.bool true)) w:=by
   rw [show Fence.wide.round=none from rfl,Oper.semAt_none]
   have e2:b1.eval (.tmp 5) = .nilIface:=e5
   have e3:b1.eval (.const .nilIface) = .nilIface:=rfl
   simp [execOp,p1,e2,e3,Jk (.inl rfl),run_eql_nil_nil w T hu']
  change Oper.uponIn Fence.wide 0 P o1 b1 _ _ ((o1.semAt Fence.wide.round b1.eval).run P w)
  rw [hr1,Oper.uponIn_value,d1]
  have e7:(b1.put (some 7) (.bool true)).tmps.getD 7 undef = .bool true:=by rw [put_getD (by rw [hs1]; omega)]; simp
  generalize hb2:b1.put (some 7) (.bool true)=b2 at e7
  have hs2:b2.tmps.size=fn.ntmps:=by rw [← hb2,put_size]; exact hs1
  have hd2:b2.defers=[]:=by rw [← hb2,put_defers]; exact hd1
  refine wpIn_cond_true (F:=Fence.wide) e7 (one_op (N:=0) (rn:=none) g2 ⟨fun _ _=>trivial,?_⟩)
  have hr2:(o2.semAt Fence.wide.round b2.eval).run P w = .ok (.value (b2.eval (.tmp 5))) w:=by
   rw [show Fence.wide.round=none from rfl,Oper.semAt_none]
   simp [execOp,p2]
  change Oper.uponIn Fence.wide 0 P o2 b2 _ _ ((o2.semAt Fence.wide.round b2.eval).run P w)
  rw [hr2,Oper.uponIn_value,d2]
  refine ⟨by rw [put_defers]; exact hd2,c₀.mode,rfl,.tuple #[],by simp [results,hr],hu,⟨_,rfl⟩,S,ρ,hH,Keep.refl _ _,fun _ h=>h,fun _ h=>.inl h,fun _ h=>.inl h,fun _ _=>rfl⟩
 have hr0':(execOp a.eval #[o0][0]).run P w = .ok .recover w:=hr0
 rw [hr0']
 simp only [hrec]
 exact key
end
end Go.Proofs.YthmbjgnjfjjibaaGreatDoor
namespace Go.Proofs.YthmbjgnjfjjibaaGreatDoor
open Go.RowKit
set_option maxRecDepth 100000
section
variable {P:Program}
theorem dc_run {g:FuncId} {fn:Func} {mc:MC} {nt:Nat} {vs:List AV} {H:Hp} (hf:P.funcs[g]?=some fn) (hn:fn.ntmps=nt) (hr:fn.results = #[]) (hc:(match fn.body with | some c=>Qq P nt c | none=>none)=some mc) (hl:vs.length<=nt)
  (h:AW P nt (Qa H) none mc (fun e F1 H1=>(e = .normal\/e = .ret)/\get H1=get H) (params vs 0) H):DC P g vs H:=by
 subst hn
 cases hb:fn.body with
 | none=>rw [hb] at hc; cases hc
 | some c=>rw [hb] at hc; exact dc_of_aw hf hb hc hl hr h
end
def mch110:MC:=(sq [oD 2 1 0 [],oB 3 .neq 2 (cI 0) [0]] (.cond 3 (rg [oS 1 1 (.c .nils) []]) .skip))
theorem mcOkh110:(match Tryz.f110.body with | some c=>Qq Tryz.prog 4 c | none=>none)=some mch110:=by kernel_rfl
theorem aw110 (H:Hp) (i e:Nat) (fl:Bool) (v:AV) (hi:get H i=some (.cells e 1 [[.int .i64 0]] fl)):AW Tryz.prog 4 (Qa H) none mch110 (fun e F1 H1=>(e = .normal\/e = .ret)/\get H1=get H) (params [.ptr i 0 0,v] 0) H:=by
 delta mch110
 refine gA 2 rfl (rs_ld_p rfl rfl hi rfl rfl (gR 0 rfl (Xo rfl rfl rfl rfl (fun h=>h rfl) (gR 3 rfl ?_))))
 exact Q5 <| ⟨.inl rfl,rfl⟩
theorem dc110 (H:Hp) (i e:Nat) (fl:Bool) (v:AV) (hi:get H i=some (.cells e 1 [[.int .i64 0]] fl)):DC Tryz.prog 110 [.ptr i 0 0,v] H :=
 dc_run Tryz.func110 rfl rfl mcOkh110 (nL rfl) (aw110 H i e fl v hi)
def s1_:Code->Code
 | .seq a _=>a
 | _=>.skip
def s2_:Code->Code
 | .seq _ b=>b
 | _=>.skip
def ops_:Code->Array Oper
 | .region _ ops _=>ops
 | _ => #[]
def rid_:Code->Nat
 | .region id _ _=>id
 | _=>0
noncomputable def bd_ (f:Nat):Code:=((Tryz.prog.funcs[f]?).bind (·.body)).getD .skip
noncomputable def cp_ (n:Nat) (c:Code):MC:=(Qq Tryz.prog n c).getD .skip
def bc_:Code->Code
 | .block _ c=>c
 | _=>.skip
def bi_:Code->Nat
 | .block i _=>i
 | _=>0
def ca_:Code->Code
 | .cond _ a _=>a
 | _=>.skip
def cb_:Code->Code
 | .cond _ _ b=>b
 | _=>.skip
noncomputable def op_ (c:Code) (k:Nat):Oper:=(ops_ c).getD k default
theorem dc111 (v:AV) (H:Hp):DC Tryz.prog 111 [v] H :=
 dc_caught (i0:=rid_ (s1_ (bd_ 111))) (bl:=bi_ (s2_ (bd_ 111))) (i1:=rid_ (s1_ (bc_ (s2_ (bd_ 111))))) (i2:=rid_ (ca_ (s2_ (bc_ (s2_ (bd_ 111)))))) (T:=20) (T':=20) (o0:=op_ (s1_ (bd_ 111)) 0) (o1:=op_ (s1_ (bc_ (s2_ (bd_ 111)))) 0) (o2:=op_ (ca_ (s2_ (bc_ (s2_ (bd_ 111))))) 0) (ce:=cb_ (s2_ (bc_ (s2_ (bd_ 111)))))
  Tryz.func111 (by kernel_rfl) (by decide +kernel) (by kernel_rfl) (by kernel_rfl) (by kernel_rfl) (by kernel_rfl) (by kernel_rfl) (by kernel_rfl) (by kernel_rfl) (by kernel_rfl) (by kernel_rfl) (by kernel_rfl) (by kernel_rfl)
noncomputable def m118a:MC:=cp_ 54 (s1_ (bd_ 118))
noncomputable def m118b:MC:=cp_ 54 (s2_ (s2_ (bd_ 118)))
noncomputable def retB (e:Exit):Bool := @Exit.rec (fun _=>Bool) true (fun _=>false) (fun _=>false) true (fun _=>false) false e
noncomputable def fz_ (h:HT) (out:List AV):PR:=match fzV h 400 (Xl out) with
 | .ok r al=>.ok r al
 | .no=>.no
noncomputable def ora118 (sh:Nat->Bool) (cl:X5) (co:CoT) (vs:List AV):PR:=match Nat.ble vs.length 54&&Qi vs with
 | true=>match evC Tryz.prog sh [] (fun _=>none) cl co m118a (parE vs 0 e2) e3 0 with
  | .ok .normal F0 h0 n0=>match gF F0 13 with
   | some _=>match evC Tryz.prog sh [] (fun _=>none) cl co m118b F0 h0 n0 with
    | .ok e1 F1 h1 _=>match retB e1 with
     | true=>match ressE Tryz.prog F1 h1 [.tmp 12,.cell 13 41] with
      | some out=>fz_ h1 out
      | none=>.no
     | false=>.no
    | .no=>.no
   | none=>.no
  | _=>.no
 | false=>.no
theorem retB_ok {e:Exit} (h:retB e=true):e = .normal\/e = .ret:=by
 cases e <;> first | exact .inl rfl | exact .inr rfl | cases h
variable {r:AV} {al:Bool} {h:HT}
theorem fz_ok {out:List AV} (e:fz_ h out = .ok r al):fzV h 400 (Xl out) = .ok r al:=by
 unfold fz_ at e
 split at e
 ·rename_i r' a' h'; injection e with e1 e2; subst e1 e2; exact h'
 ·cases e
variable {co:CoT} {sh:Nat->Bool}
theorem ora118_ok {cl:X5} (hcl:SCl Tryz.prog [] sh cl) (hco:SCo Tryz.prog [] co) {vs:List AV} (h:ora118 sh cl co vs = .ok r al):(al=false->FC Tryz.prog 118 vs [] r [] false)/\(al=true->FC Tryz.prog 118 vs [] r [] true/\Qi vs=true):=by
 unfold ora118 at h
 split at h
 ·rename_i hlen
  rw [Bool.and_eq_true] at hlen
  obtain ⟨hlen,hcl0⟩:=hlen
  suffices hk:∀ al',(al'=true\/al=false)->FC Tryz.prog 118 vs [] r [] al' from ⟨fun e=>hk false (.inr e),fun e=>⟨hk true (.inl rfl),hcl0⟩⟩
  intro al' ha
  split at h
  ·rename_i F0 h0 n0 ev0
   split at h
   ·rename_i v13 h13
    split at h
    ·rename_i e1 F1 h1 n1 ev1
     split at h
     ·rename_i hret
      split at h
      ·rename_i out hres
       exact fc_defers (l:=[s1_ (s2_ (bd_ 118))]) (F0':=F0) (gs:=[(111,[v13])]) (c0:=s1_ (bd_ 118)) (c1:=s2_ (s2_ (bd_ 118))) (m0:=m118a) (m1:=m118b) hmix hcl hco Tryz.func118 (by kernel_rfl) (by kernel_rfl) (by kernel_rfl) (by decide +kernel) (Nat.le_of_ble_eq_true hlen) ev0
        (fun Fl hFl=>⟨Fl,hFl,.cons (gs:=[]) (dfc_call (id:=rid_ (s1_ (s2_ (bd_ 118)))) (o:=op_ (s1_ (s2_ (bd_ 118))) 0) (t:=13) (ty:=194) (by kernel_rfl) (by kernel_rfl) (by kernel_rfl) (by rw [hFl]; exact h13) (by kernel_rfl)) (.nil Fl)⟩)
        ev1 (retB_ok hret) (fun Hl _ p hp=>by rw [List.mem_singleton.1 hp]; exact dc111 v13 Hl) hres (fz_ok h) ha
      ·cases h
     ·cases h
    ·cases h
   ·cases h
  ·cases h
 ·cases h
noncomputable def m64a:MC:=cp_ 87 (s1_ (bd_ 64))
noncomputable def m64b:MC:=cp_ 87 (s2_ (s2_ (s2_ (bd_ 64))))
noncomputable def okErr (h:HT) (v:AV):Bool:=match v with
 | .ptr i 0 0=>match obE h i with
  | some (.cells _ 1 [[.int .i64 0]] _)=>true
  | _=>false
 | _=>false
noncomputable def ora64 (sh:Nat->Bool) (cl:X5) (co:CoT) (vs:List AV):PR:=match Nat.ble vs.length 87&&Qi vs with
 | true=>match evC Tryz.prog sh [] (fun _=>none) cl co m64a (parE vs 0 e2) e3 0 with
  | .ok .normal F0 h0 n0=>match gF F0 13,gF F0 12 with
   | some v13,some v12=>match evC Tryz.prog sh [] (fun _=>none) cl co m64b (sF F0 20 (.fn (.func 110) [v13,v12])) h0 n0 with
    | .ok e1 F1 h1 _=>match retB e1,okErr h1 v13 with
     | true,true=>match ressE Tryz.prog F1 h1 [.cell 12 56,.cell 13 41] with
      | some out=>fz_ h1 out
      | none=>.no
     | _,_=>.no
    | .no=>.no
   | _,_=>.no
  | _=>.no
 | false=>.no
theorem okErr_ok {v:AV} (e:okErr h v=true):∃ i e' fl,v = .ptr i 0 0/\obE h i=some (.cells e' 1 [[.int .i64 0]] fl):=by
 unfold okErr at e
 split at e
 ·split at e
  ·rename_i i _ e' fl ho; exact ⟨i,e',fl,rfl,ho⟩
  ·cases e
 ·cases e
theorem ora64_ok {cl:X5} (hcl:SCl Tryz.prog [] sh cl) (hco:SCo Tryz.prog [] co) {vs:List AV} (h:ora64 sh cl co vs = .ok r al):(al=false->FC Tryz.prog 64 vs [] r [] false)/\(al=true->FC Tryz.prog 64 vs [] r [] true/\Qi vs=true):=by
 unfold ora64 at h
 split at h
 ·rename_i hlen
  rw [Bool.and_eq_true] at hlen
  obtain ⟨hlen,hcl0⟩:=hlen
  suffices hk:∀ al',(al'=true\/al=false)->FC Tryz.prog 64 vs [] r [] al' from ⟨fun e=>hk false (.inr e),fun e=>⟨hk true (.inl rfl),hcl0⟩⟩
  intro al' ha
  split at h
  ·rename_i F0 h0 n0 ev0
   split at h
   ·rename_i v13 v12 h13 h12
    split at h
    ·rename_i e1 F1 h1 n1 ev1
     split at h
     ·rename_i hret herr
      split at h
      ·rename_i out hres
       obtain ⟨i,e',fl,rfl,ho⟩:=okErr_ok herr
       refine fc_defers (l:=[s1_ (s2_ (bd_ 64)),s1_ (s2_ (s2_ (bd_ 64)))]) (F0':=sF F0 20 (.fn (.func 110) [.ptr i 0 0,v12])) (gs:=[(111,[.ptr i 0 0]),(110,[.ptr i 0 0,v12])]) (c0:=s1_ (bd_ 64)) (c1:=s2_ (s2_ (s2_ (bd_ 64)))) (m0:=m64a) (m1:=m64b) hmix hcl hco Tryz.func64 (by kernel_rfl) (by kernel_rfl) (by kernel_rfl) (by decide +kernel) (Nat.le_of_ble_eq_true hlen) ev0
        (fun Fl hFl=>⟨(20,.fn (.func 110) [.ptr i 0 0,v12])::Fl,?_,.cons (gs:=[(111,[.ptr i 0 0])]) (dfc_clo (id:=rid_ (s1_ (s2_ (bd_ 64)))) (o1:=op_ (s1_ (s2_ (bd_ 64))) 0) (o2:=op_ (s1_ (s2_ (bd_ 64))) 1) (t1:=13) (t2:=12) (tm:=20) (by kernel_rfl) (by kernel_rfl) (by kernel_rfl) (by kernel_rfl) (by decide +kernel) (by kernel_rfl) (by kernel_rfl) (by rw [hFl]; exact h13) (by rw [hFl]; exact h12) (by kernel_rfl))
         (.cons (gs:=[]) (dfc_call (id:=rid_ (s1_ (s2_ (s2_ (bd_ 64))))) (o:=op_ (s1_ (s2_ (s2_ (bd_ 64)))) 0) (t:=13) (ty:=194) (by kernel_rfl) (by kernel_rfl) (by kernel_rfl) (by rw [← h13,← hFl]; rfl) (by kernel_rfl)) (.nil _))⟩)
        ev1 (retB_ok hret) (fun Hl hHl p hp=>?_) hres (fz_ok h) ha
       ·have:=get_putE (mo:=⟨some 20,.bot,none,[]⟩) (N:=87) hFl rfl (by decide) (.fn (.func 110) [.ptr i 0 0,v12])
        exact this
       ·rcases List.mem_cons.1 hp with rfl | hp
        ·exact dc111 _ Hl
        ·rw [List.mem_singleton.1 hp]
         exact dc110 Hl i e' fl v12 (hp_ob hHl ho)
      ·cases h
     ·cases h
    ·cases h
   ·cases h
  ·cases h
 ·cases h
end Go.Proofs.YthmbjgnjfjjibaaGreatDoor
namespace Go.Proofs.YthmbjgnjfjjibaaGreatDoor
def beyF (l:List V3) (p:Pl):Bool:=match QD p with
 | true=>l.any fun v=>decide (p.b<dot p.n v)
 | false=>false
def accG (l:List V3) (fs:List Pl) (p:Pl):List Pl:=match beyF l p with
 | true=>fs
 | false=>match decide (p∈fs) with
  | true=>fs
  | false=>fs++[p]
def Ji (a n:V3):Pl:=⟨n,dot n a⟩
def flpF (p:Pl):Pl:=⟨⟨-p.n.x,-p.n.y,-p.n.z⟩,-p.b⟩
def triG (l:List V3) (fs:List Pl) (a n:V3):List Pl:=match decide (gS n=0) with
 | true=>fs
 | false=>accG l (accG l fs (Ji a (Qj n))) (flpF (Ji a (Qj n)))
def innG (l:List V3) (b c:V3) (fs:List Pl):Nat->List Pl
 | 0=>fs
 | k+1=>triG l (innG l b c fs k) (l.getD k dV) (cross (sub b (l.getD k dV)) (sub c (l.getD k dV)))
def mdlG (l:List V3) (c:V3) (fs:List Pl):Nat->List Pl
 | 0=>fs
 | j+1=>innG l (l.getD j dV) c (mdlG l c fs j) j
def topG (l:List V3):Nat->List Pl
 | 0=>[]
 | i+1=>mdlG l (l.getD i dV) (topG l i) i
def faceG (l:List V3):List Pl:=topG l l.length
theorem plK_inj {p q:Pl} (h:plK p=plK q):p=q:=by
 obtain ⟨⟨a,b,c⟩,d⟩:=p
 obtain ⟨⟨a',b',c'⟩,d'⟩:=q
 simp [plK] at h
 obtain ⟨rfl,rfl,rfl,rfl⟩:=h
 rfl
theorem plK_mem {p:Pl} {l:List Pl}:plK p∈l.map plK ↔ p∈l :=
 ⟨fun h=>by obtain ⟨q,h1,h2⟩:=List.mem_map.1 h; rw [← plK_inj h2]; exact h1,fun h=>List.mem_map_of_mem h⟩
theorem ordS_pos {a b:Int}:JA a b>0 ↔ b<a:=by
 unfold JA
 split
 ·constructor <;> (intro h; omega)
 ·split
  ·constructor <;> (intro h; omega)
  ·constructor <;> (intro h; omega)
theorem beyF_eq {l:List V3} (hin:∀ v∈l,inS v=true) (p:Pl):beyS l p=beyF l p:=by
 unfold beyF beyS
 cases hv:QD p with
 | false =>
  show l.any (beyB p)=false
  rw [List.any_eq_false]
  intro v _
  simp [beyB,sideS,hv]
 | true =>
  show l.any (beyB p)=l.any fun v=>decide (p.b<dot p.n v)
  have hb:=(valid_b hv).1
  have one:∀ v,inS v=true->beyB p v=decide (p.b<dot p.n v):=fun v hi=>by
   unfold beyB sideS
   rw [hv,hi,dotW_eq ⟨⟨by have:=hb.1; omega,by have:=hb.1; omega⟩,⟨by have:=hb.2.1; omega,by have:=hb.2.1; omega⟩,⟨by have:=hb.2.2; omega,by have:=hb.2.2; omega⟩⟩ ((inS_bd hi).mono (by decide))]
   simp only [if_true,decide_eq_decide]
   exact ordS_pos
  induction l with
  | nil=>rfl
  | cons v l ih=>rw [List.any_cons,List.any_cons,one v (hin v (by simp)),ih fun u hu=>hin u (by simp [hu])]
def InvF (l:List V3) (s:HS):Prop:=∀ p,p∈s.2 ↔ (p∈s.1/\beyF l p=false)
theorem accG_eq {l:List V3} (hin:∀ v∈l,inS v=true) {s:HS} (h:InvF l s) (p:Pl):(XA l s p).2=accG l s.2 p/\InvF l (XA l s p):=by
 unfold XA
 by_cases hm:plK p∈s.1.map plK
 ·rw [if_pos hm]
  refine ⟨?_,h⟩
  unfold accG
  cases hb:beyF l p with
  | true=>rfl
  | false =>
   have:p∈s.2:=(h p).2 ⟨plK_mem.1 hm,hb⟩
   simp [this]
 ·rw [if_neg hm]
  have hn:p ∉ s.1:=fun h'=>hm (plK_mem.2 h')
  rw [beyF_eq hin]
  unfold accG
  cases hb:beyF l p with
  | true =>
   refine ⟨rfl,fun q=>?_⟩
   simp only [if_true,List.mem_append,List.mem_singleton]
   constructor
   ·intro hq; exact ⟨.inl ((h q).1 hq).1,((h q).1 hq).2⟩
   ·rintro ⟨hq | rfl,h2⟩
    ·exact (h q).2 ⟨hq,h2⟩
    ·rw [hb] at h2; cases h2
  | false =>
   have hn2:p ∉ s.2:=fun h'=>hn ((h p).1 h').1
   refine ⟨by simp [hn2],fun q=>?_⟩
   simp only [Bool.false_eq_true,if_false,List.mem_append,List.mem_singleton]
   constructor
   ·rintro (hq | rfl)
    ·exact ⟨.inl ((h q).1 hq).1,((h q).1 hq).2⟩
    ·exact ⟨.inr rfl,hb⟩
   ·rintro ⟨hq | rfl,h2⟩
    ·exact .inl ((h q).2 ⟨hq,h2⟩)
    ·exact .inr rfl
theorem thP_eq {a b c:V3} (ha:inS a=true) (hb:inS b=true) (hc:inS c=true):thP a b c=Ji a (Qj (cross (sub b a) (sub c a))):=by
 have hp:=primBd (thN_bd ha hb hc) (by decide)
 unfold thP Ji
 rw [dotW_eq (hp.mono (by decide)) ((inS_bd ha).mono (by decide)),thN_eq ha hb hc]
theorem flip_eq {p:Pl} (h:Bd 4608 p.n):flipH p=flpF p:=by
 unfold flipH flpF
 rw [subW_eq ⟨by decide,by decide,by decide⟩ (h.mono (by decide))]
 simp [sub]
theorem triG_eq {l:List V3} (hin:∀ v∈l,inS v=true) {s:HS} (h:InvF l s) {a b c:V3} (ha:inS a=true) (hb:inS b=true) (hc:inS c=true) :
  (triF l s a b c).2=triG l s.2 a (cross (sub b a) (sub c a))/\InvF l (triF l s a b c):=by
 have hp:=(thP_bd ha hb hc).1
 unfold triF triG thB
 rw [thP_eq ha hb hc] at hp ⊢
 rw [thN_eq ha hb hc]
 by_cases h0:gS (cross (sub b a) (sub c a))=0
 ·rw [if_neg (by rw [h0]; decide),decide_eq_true h0]
  exact ⟨rfl,h⟩
 ·rw [if_pos (decide_eq_true (by omega)),decide_eq_false h0,flip_eq hp]
  obtain ⟨h1,h2⟩:=accG_eq hin h (Ji a (Qj (cross (sub b a) (sub c a))))
  obtain ⟨h3,h4⟩:=accG_eq hin h2 (flpF (Ji a (Qj (cross (sub b a) (sub c a)))))
  exact ⟨by rw [h3,h1],h4⟩
theorem inGetD {l:List V3} (hin:∀ v∈l,inS v=true) (k:Nat):inS (l.getD k dV)=true:=by
 rw [List.getD_eq_getElem?_getD]
 cases h:l[k]? with
 | none=>exact (by decide:inS dV=true)
 | some v=>exact hin v (List.mem_of_getElem? h)
theorem innG_eq {l:List V3} (hin:∀ v∈l,inS v=true) {b c:V3} (hb:inS b=true) (hc:inS c=true) {s:HS} (h:InvF l s):∀ k,(innF l b c s k).2=innG l b c s.2 k/\InvF l (innF l b c s k)
 | 0=>⟨rfl,h⟩
 | k+1=>by
  obtain ⟨h1,h2⟩:=innG_eq hin hb hc h k
  obtain ⟨h3,h4⟩:=triG_eq hin h2 (inGetD hin k) hb hc
  exact ⟨by show (triF _ _ _ _ _).2=triG _ _ _ _; rw [h3,h1],h4⟩
theorem mdlG_eq {l:List V3} (hin:∀ v∈l,inS v=true) {c:V3} (hc:inS c=true) {s:HS} (h:InvF l s):∀ j,(mdlF l c s j).2=mdlG l c s.2 j/\InvF l (mdlF l c s j)
 | 0=>⟨rfl,h⟩
 | j+1=>by
  obtain ⟨h1,h2⟩:=mdlG_eq hin hc h j
  obtain ⟨h3,h4⟩:=innG_eq hin (inGetD hin j) hc h2 j
  exact ⟨by show (innF _ _ _ _ _).2=innG _ _ _ _ _; rw [h3,h1],h4⟩
theorem topG_eq {l:List V3} (hin:∀ v∈l,inS v=true):∀ i,(topF l i).2=topG l i/\InvF l (topF l i)
 | 0=>⟨rfl,fun p=>by simp [topF]⟩
 | i+1=>by
  obtain ⟨h1,h2⟩:=topG_eq hin i
  obtain ⟨h3,h4⟩:=mdlG_eq hin (inGetD hin i) h2 i
  exact ⟨by show (mdlF _ _ _ _).2=mdlG _ _ _ _; rw [h3,h1],h4⟩
theorem faceG_eq {l:List V3} (hin:∀ v∈l,inS v=true):(topF l l.length).2=faceG l:=(topG_eq hin l.length).1
end Go.Proofs.YthmbjgnjfjjibaaGreatDoor
namespace Go.Proofs.YthmbjgnjfjjibaaGreatDoor
open Go.RowKit
set_option maxRecDepth 100000
variable {r:List Pl}
theorem acc_P {Q:Pt->Prop} {l:List Pt} {p q s:Pl} (hl:∀ x∈l,Q x) (h:wd3 p q s≠0->withS r (mtP p q s)=true->Q (mtP p q s)):∀ x∈JX r l p q s,Q x:=by
 unfold JX
 split
 ·exact hl
 ·rename_i h0
  split
  ·exact hl
  ·split
   ·rename_i h1
    intro x hx
    rcases List.mem_append.1 hx with hx | hx
    ·exact hl x hx
    ·rw [List.mem_singleton.1 hx]; exact h h0 h1
   ·exact hl
theorem inn_P {r:List Pl} {Q:Pt->Prop} {p q:Pl}:∀ {t:List Pl} {l:List Pt},(∀ x∈l,Q x)->(∀ s∈t,wd3 p q s≠0->withS r (mtP p q s)=true->Q (mtP p q s))->∀ x∈innS r p q l t,Q x
 | [],l,hl,h=>hl
 | s::t,l,hl,h=>inn_P (t:=t) (acc_P hl (h s (List.mem_cons_self ..))) (fun a ha=>h a (List.mem_cons_of_mem _ ha))
theorem mid_P {r:List Pl} {Q:Pt->Prop} {p:Pl}:∀ {t:List Pl} {l:List Pt},(∀ x∈l,Q x)->(∀ q∈t,∀ s∈t,wd3 p q s≠0->withS r (mtP p q s)=true->Q (mtP p q s))->∀ x∈midS r p l t,Q x
 | [],l,hl,h=>hl
 | q::t,l,hl,h=>mid_P (t:=t) (inn_P hl (fun s hs=>h q (List.mem_cons_self ..) s (List.mem_cons_of_mem _ hs))) (fun a ha b hb=>h a (List.mem_cons_of_mem _ ha) b (List.mem_cons_of_mem _ hb))
theorem top_P {r:List Pl} {Q:Pt->Prop}:∀ {t:List Pl} {l:List Pt},(∀ x∈l,Q x)->(∀ p∈t,∀ q∈t,∀ s∈t,wd3 p q s≠0->withS r (mtP p q s)=true->Q (mtP p q s))->∀ x∈topS r l t,Q x
 | [],l,hl,h=>hl
 | p::t,l,hl,h=>top_P (t:=t) (mid_P hl (fun q hq s hs=>h p (List.mem_cons_self ..) q (List.mem_cons_of_mem _ hq) s (List.mem_cons_of_mem _ hs))) (fun a ha b hb c hc=>h a (List.mem_cons_of_mem _ ha) b (List.mem_cons_of_mem _ hb) c (List.mem_cons_of_mem _ hc))
structure PtB (v:Pt):Prop where
 x : -267181325549568<=v.x/\v.x<=267181325549568
 y : -267181325549568<=v.y/\v.y<=267181325549568
 z : -267181325549568<=v.z/\v.z<=267181325549568
 w:0<=v.w/\v.w<=1000000000000
theorem tdivB {a g B:Int} (h : -B<=a/\a<=B) : -B<=a.tdiv g/\a.tdiv g<=B:=by
 have h1:=Int.natAbs_tdiv a g
 have h2:(a.tdiv g).natAbs<=a.natAbs:=by rw [h1]; exact Nat.div_le_self _ _
 omega
theorem mtP_b {p q s:Pl} (hp:QD p=true) (hq:QD q=true) (hs:QD s=true):PtB (mtP p q s):=by
 obtain ⟨⟨hx,hy,hz⟩,hw⟩:=sum3_b hp hq hs
 have ax:=tdivB (g:=gd3 p q s) hx
 have ay:=tdivB (g:=gd3 p q s) hy
 have az:=tdivB (g:=gd3 p q s) hz
 have aw:=tdivB (g:=gd3 p q s) hw
 have nn:0<=(wd3 p q s).tdiv (gd3 p q s):=by
  unfold gd3
  split
  ·rename_i h
   have:=Int.tdiv_nonneg (a := -wd3 p q s) (b:=(gL [(XQ p q s).x,(XQ p q s).y,(XQ p q s).z,wd3 p q s]:Int)) (by omega) (by omega)
   rw [Int.neg_tdiv,← Int.tdiv_neg] at this
   exact this
  ·exact Int.tdiv_nonneg (by omega) (by omega)
 refine ⟨?_,?_,?_,?_⟩ <;> (unfold mtP; dsimp only; rw [Xe (by omega)]; omega)
theorem dotE {n v:V3} (hn:VB 4608 n) (hv:VB 267181325549568 v):dotW n v=n.x*v.x+n.y*v.y+n.z*v.z:=by
 obtain ⟨n1,n2,n3⟩:=hn
 obtain ⟨v1,v2,v3⟩:=hv
 have b1:=XI n1 v1
 have b2:=XI n2 v2
 have b3:=XI n3 v3
 unfold dotW
 rw [Xe (n:=n.x*v.x) (by omega),Xe (n:=n.y*v.y) (by omega),Xe (n:=n.z*v.z) (by omega),Xe (n:=n.x*v.x+n.y*v.y) (by omega),Xe (by omega)]
theorem room_eq {p:Pl} {x:Pt} (hp:QD p=true) (hx:PtB x):roomS p x=p.b*x.w-(p.n.x*x.x+p.n.y*x.y+p.n.z*x.z):=by
 obtain ⟨hn,hb⟩:=valid_b hp
 have e:=dotE (v:=⟨x.x,x.y,x.z⟩) hn ⟨hx.x,hx.y,hx.z⟩
 have b0:=XI hb (B:=1000000000000) (b:=x.w) ⟨by have:=hx.w; omega,hx.w.2⟩
 have b1:=XI hn.1 hx.x
 have b2:=XI hn.2.1 hx.y
 have b3:=XI hn.2.2 hx.z
 unfold roomS
 dsimp only at e
 rw [e,Xe (n:=p.b*x.w) (by omega),Xe (by omega)]
theorem corn_b (hv:∀ p∈r,QD p=true):∀ x∈cornS r,PtB x/\withS r x=true :=
 top_P (Q:=fun x=>PtB x/\withS r x=true) (by simp) fun p hp q hq s hs h0 hw=>⟨mtP_b (hv p hp) (hv q hq) (hv s hs),hw⟩
theorem with_room {x:Pt} (h:withS r x=true) {p:Pl} (hp:p∈r):0<=roomS p x:=by
 unfold withS at h
 have h2:r.any (outB x)=false:=by simpa using h
 have h3:=List.any_eq_false.1 h2 p hp
 have h4:¬ roomS p x<0:=fun hc=>h3 (decide_eq_true hc)
 omega
def SepC (a b:List Pl):Prop:=∃ p∈a,∃ q∈b,(q.n.x = -p.n.x/\q.n.y = -p.n.y/\q.n.z = -p.n.z)/\p.b+q.b<=0
theorem SepC.symm {a b:List Pl} (h:SepC a b):SepC b a:=by
 obtain ⟨p,hp,q,hq,⟨h1,h2,h3⟩,h4⟩:=h
 exact ⟨q,hq,p,hp,⟨by omega,by omega,by omega⟩,by omega⟩
theorem SepC.mono {a b c d:List Pl} (h:SepC a b) (ha:∀ p∈a,p∈c) (hb:∀ p∈b,p∈d):SepC c d:=by
 obtain ⟨p,hp,q,hq,h⟩:=h
 exact ⟨p,ha p hp,q,hb q hq,h⟩
theorem sep_not_full (hv:∀ p∈r,QD p=true) {p q:Pl} (hp:p∈r) (hq:q∈r) (hn:q.n.x = -p.n.x/\q.n.y = -p.n.y/\q.n.z = -p.n.z) (hb:p.b+q.b<=0):fullS r=false:=by
 unfold fullS
 have:r.any (nonS (cornS r))=true:=List.any_eq_true.2 ⟨p,hp,by
  unfold nonS
  have:(cornS r).any (inB p)=false:=List.any_eq_false.2 fun x hx=>by
   obtain ⟨hB,hw⟩:=corn_b hv x hx
   have r1:=with_room hw hp
   have r2:=with_room hw hq
   have e1:=room_eq (hv p hp) hB
   have e2:=room_eq (hv q hq) hB
   rw [hn.1,hn.2.1,hn.2.2] at e2
   have hm:(p.b+q.b)*x.w<=0:=Int.mul_nonpos_of_nonpos_of_nonneg hb hB.w.1
   rw [Int.add_mul] at hm
   rw [Int.neg_mul,Int.neg_mul,Int.neg_mul] at e2
   have:¬ roomS p x>0:=by omega
   unfold inB
   rw [decide_eq_false this]; decide
  rw [this]; rfl⟩
 rw [this]; rfl
theorem sep_apart {a b:List Pl} (h:SepC a b):apartS a b=true:=by
 unfold apartS
 cases hv:validS [a,b]
 ·rfl
 ·obtain ⟨p,hp,q,hq,hn,hb⟩:=h
  have:fullS (ofS [a,b])=false:=sep_not_full (ofS_valid hv) (p:=p) (q:=q) (by unfold ofS; simp [hp]) (by unfold ofS; simp [hq]) hn hb
  rw [this]; rfl
end Go.Proofs.YthmbjgnjfjjibaaGreatDoor
namespace Go.Proofs.YthmbjgnjfjjibaaGreatDoor
open Go.RowKit
set_option maxRecDepth 100000
noncomputable def anB (a b:Bool):Bool := @Bool.rec (fun _=>Bool) false b a
theorem anB_eq (a b:Bool):anB a b=(a&&b):=by cases a <;> rfl
noncomputable def anyB {α:Type} (f:α->Bool) (l:List α):Bool := @List.rec α (fun _=>Bool) false (fun x _ ih=>Q6 (f x) true ih) l
theorem anyB_eq {α:Type} (f:α->Bool):∀ l:List α,anyB f l=l.any f
 | []=>rfl
 | x::l=>by
  have ih:=anyB_eq f l
  show Q6 (f x) true (anyB f l)=_
  rw [ih,QJ,List.any_cons]
  cases f x <;> rfl
-- cells apart
noncomputable def oppB (p q:Pl):Bool:=anB (iEq (iAdd p.n.x q.n.x) 0) (anB (iEq (iAdd p.n.y q.n.y) 0) (anB (iEq (iAdd p.n.z q.n.z) 0) (iLe (iAdd p.b q.b) 0)))
noncomputable def sepB (a b:List Pl):Bool:=anyB (fun p=>anyB (fun q=>oppB p q) b) a
theorem sepB_ok {a b:List Pl} (h:sepB a b=true):SepC a b:=by
 unfold sepB at h
 rw [anyB_eq,List.any_eq_true] at h
 obtain ⟨p,hp,h⟩:=h
 rw [anyB_eq,List.any_eq_true] at h
 obtain ⟨q,hq,h⟩:=h
 unfold oppB at h
 simp only [anB_eq,iEq_eq,iAdd_eq,iLe_eq,Bool.and_eq_true,beq_iff_eq,decide_eq_true_eq] at h
 exact ⟨p,hp,q,hq,⟨by omega,by omega,by omega⟩,h.2.2.2⟩
noncomputable def apartQ (a b:List Pl):Bool:=Q6 (sepB a b) true (apartS a b)
theorem apartQ_eq (a b:List Pl):apartQ a b=apartS a b:=by
 unfold apartQ
 rw [QJ]
 split
 ·rename_i h; exact (sep_apart (sepB_ok h)).symm
 ·rfl
def fullQ (a:List Pl):Bool:=cfullS a
theorem fullQ_eq (a:List Pl):fullQ a=cfullS a:=rfl
-- sides
noncomputable def inQ (v:V3):Bool:=anB (anB (iLe (-24) v.x) (iLe v.x 24)) (anB (anB (iLe (-24) v.y) (iLe v.y 24)) (anB (iLe (-24) v.z) (iLe v.z 24)))
theorem inQ_eq (v:V3):inQ v=inS v:=by
 unfold inQ inS X6
 simp only [anB_eq,iLe_eq,List.all_cons,List.all_nil,Bool.and_true,Bool.decide_and]
noncomputable def wiQ (m x:Int):Bool:=anB (iLe (iNeg m) x) (iLe x m)
theorem wiQ_eq (m x:Int):wiQ m x=decide (-m<=x/\x<=m):=by
 unfold wiQ
 simp only [anB_eq,iLe_eq,iNeg_eq,Bool.decide_and]
noncomputable def validQ (p:Pl):Bool:=anB (anB (anB (wiQ 4608 p.n.x) (anB (wiQ 4608 p.n.y) (wiQ 4608 p.n.z))) (Nat.beq (Nat.gcd (Nat.gcd p.n.x.natAbs p.n.y.natAbs) p.n.z.natAbs) 1)) (wiQ 2097152 p.b)
theorem validQ_eq (p:Pl):validQ p=QD p:=by
 unfold validQ QD X6 gL
 simp only [anB_eq,wiQ_eq,List.all_cons,List.all_nil,Bool.and_true,List.foldl_cons,List.foldl_nil,Nat.gcd_zero_left]
 congr 2
 have:∀ n:Nat,Nat.beq n 1=decide ((n:Int)=1):=fun n=>by
  cases h:Nat.beq n 1
  ·have:n≠1:=Nat.ne_of_beq_eq_false h
   exact (decide_eq_false (by omega)).symm
  ·have:=Nat.eq_of_beq_eq_true h
   exact (decide_eq_true (by omega)).symm
 exact this _
noncomputable def dotI (a b:V3):Int:=iAdd (iAdd (iMul a.x b.x) (iMul a.y b.y)) (iMul a.z b.z)
theorem dotI_eq (a b:V3):dotI a b=dot a b:=by simp only [dotI,iAdd_eq,iMul_eq,dot]
noncomputable def ordQ (a b:Int):Int:=Q6 (iLt a b) (-1) (Q6 (iLt b a) 1 0)
theorem ordQ_eq (a b:Int):ordQ a b=JA a b:=by
 unfold ordQ JA
 simp only [QJ,iLt_eq,decide_eq_true_eq]
noncomputable def sideQ (p:Pl) (v:V3):Int:=Q6 (anB (validQ p) (inQ v)) (ordQ (dotI p.n v) p.b) 0
theorem sideQ_eq (p:Pl) (v:V3):sideQ p v=sideS p v:=by
 unfold sideQ sideS
 rw [validQ_eq,inQ_eq,anB_eq,QJ,ordQ_eq,dotI_eq]
 cases hv:QD p
 ·rfl
 ·cases hi:inS v
  ·rfl
  ·have hb:=(valid_b hv).1
   rw [dotW_eq ⟨⟨by have:=hb.1; omega,by have:=hb.1; omega⟩,⟨by have:=hb.2.1; omega,by have:=hb.2.1; omega⟩,⟨by have:=hb.2.2; omega,by have:=hb.2.2; omega⟩⟩ ((inS_bd hi).mono (by decide))]
   rfl
noncomputable def vcmpQ (a b:V3):Int:=Q6 (iLt a.x b.x) (-1) (Q6 (iLt b.x a.x) 1 (Q6 (iLt a.y b.y) (-1) (Q6 (iLt b.y a.y) 1 (Q6 (iLt a.z b.z) (-1) (Q6 (iLt b.z a.z) 1 0)))))
theorem vcmpQ_eq (a b:V3):vcmpQ a b=vcmpS a b:=by
 unfold vcmpQ vcmpS orS orS orS orS JA
 simp only [QJ,iLt_eq,decide_eq_true_eq]
 repeat' split
 all_goals first | rfl | omega
-- faces
theorem gS_dv (v:V3):(gS v:Int) ∣ v.x/\(gS v:Int) ∣ v.y/\(gS v:Int) ∣ v.z:=by
 have e:gS v=Nat.gcd (Nat.gcd (Nat.gcd 0 v.x.natAbs) v.y.natAbs) v.z.natAbs:=rfl
 rw [Int.ofNat_dvd_left,Int.ofNat_dvd_left,Int.ofNat_dvd_left,e]
 exact ⟨Nat.dvd_trans (Nat.gcd_dvd_left _ _) (Nat.dvd_trans (Nat.gcd_dvd_left _ _) (Nat.gcd_dvd_right _ _)),Nat.dvd_trans (Nat.gcd_dvd_left _ _) (Nat.gcd_dvd_right _ _),Nat.gcd_dvd_right _ _⟩
theorem gS_great {v:V3} {d:Nat} (h1:(d:Int) ∣ v.x) (h2:(d:Int) ∣ v.y) (h3:(d:Int) ∣ v.z):d ∣ gS v:=by
 have e:gS v=Nat.gcd (Nat.gcd (Nat.gcd 0 v.x.natAbs) v.y.natAbs) v.z.natAbs:=rfl
 rw [Int.ofNat_dvd_left] at h1 h2 h3
 rw [e]
 exact Nat.dvd_gcd (Nat.dvd_gcd (Nat.dvd_gcd (Nat.dvd_zero _) h1) h2) h3
theorem prim_mul' (v:V3) (h:gS v≠0):v.x=gS v*(Qj v).x/\v.y=gS v*(Qj v).y/\v.z=gS v*(Qj v).z:=by
 obtain ⟨h1,h2,h3⟩:=gS_dv v
 unfold Qj
 rw [if_neg h]
 exact ⟨(Int.mul_tdiv_cancel' h1).symm,(Int.mul_tdiv_cancel' h2).symm,(Int.mul_tdiv_cancel' h3).symm⟩
theorem gS_prim {v:V3} (h:gS v≠0):gS (Qj v)=1:=by
 obtain ⟨m1,m2,m3⟩:=prim_mul' v h
 obtain ⟨d1,d2,d3⟩:=gS_dv (Qj v)
 have:gS v*gS (Qj v) ∣ gS v:=by
  refine gS_great ?_ ?_ ?_
  ·rw [m1,Int.natCast_mul]; exact Int.mul_dvd_mul_left _ d1
  ·rw [m2,Int.natCast_mul]; exact Int.mul_dvd_mul_left _ d2
  ·rw [m3,Int.natCast_mul]; exact Int.mul_dvd_mul_left _ d3
 have h1:gS v*gS (Qj v) ∣ gS v*1:=by rw [Nat.mul_one]; exact this
 exact Nat.dvd_one.1 (Nat.dvd_of_mul_dvd_mul_left (by omega) h1)
theorem val_pln {a n:V3} (hn:Bd 4608 n) (ha:inS a=true) (h:gS n≠0):QD (Ji a (Qj n))=true:=by
 have hp:=primBd hn (by decide)
 have hd:=dotBd hp (inS_bd ha)
 have hg:=gS_prim h
 rw [← validQ_eq]
 unfold validQ Ji
 simp only [anB_eq,wiQ_eq,Bool.and_eq_true,decide_eq_true_eq]
 refine ⟨⟨⟨hp.x,hp.y,hp.z⟩,?_⟩,by omega⟩
 have e:gS (Qj n)=Nat.gcd (Nat.gcd (Nat.gcd 0 (Qj n).x.natAbs) (Qj n).y.natAbs) (Qj n).z.natAbs:=rfl
 rw [Nat.gcd_zero_left] at e
 rw [← e,hg]; rfl
theorem val_flp {p:Pl} (h:QD p=true):QD (flpF p)=true:=by
 rw [← validQ_eq] at h ⊢
 unfold validQ at h ⊢
 simp only [anB_eq,wiQ_eq,Bool.and_eq_true,decide_eq_true_eq,flpF,Int.natAbs_neg] at h ⊢
 obtain ⟨⟨⟨h1,h2,h3⟩,h4⟩,h5⟩:=h
 exact ⟨⟨⟨by omega,by omega,by omega⟩,h4⟩,by omega⟩
noncomputable def scanH (n:V3) (d:Int) (l:List V3):Bool->Bool->Bool×Bool := @List.rec V3 (fun _=>Bool->Bool->Bool×Bool) (fun p q=>(p,q))
 (fun v _ ih p q=>Q6 (iLt d (dotI n v)) (Q6 q (true,true) (ih true q)) (Q6 (iLt (dotI n v) d) (Q6 p (true,true) (ih p true)) (ih p q))) l
theorem scanH_eq (n:V3) (d:Int):∀ (l:List V3) (p q:Bool),scanH n d l p q=(p||l.any fun v=>decide (d<dot n v),q||l.any fun v=>decide (dot n v<d))
 | [],p,q=>by cases p <;> cases q <;> rfl
 | v::l,p,q=>by
  have ih:=scanH_eq n d l
  show Q6 (iLt d (dotI n v)) (Q6 q (true,true) (scanH n d l true q)) (Q6 (iLt (dotI n v) d) (Q6 p (true,true) (scanH n d l p true)) (scanH n d l p q))=_
  rw [ih,ih,ih,dotI_eq]
  simp only [QJ,iLt_eq,decide_eq_true_eq,List.any_cons]
  by_cases h1:d<dot n v
  ·have h2:¬ dot n v<d:=by omega
   simp only [h1,h2,decide_true,decide_false,if_true,Bool.true_or,Bool.or_true,Bool.false_or]
   cases q <;> simp
  ·by_cases h2:dot n v<d
   ·simp only [h1,h2,decide_true,decide_false,if_true,if_false,Bool.true_or,Bool.or_true,Bool.false_or]
    cases p <;> simp
   ·simp only [h1,h2,decide_false,if_false,Bool.false_or]
noncomputable def eqPB (p q:Pl):Bool:=anB (iEq p.n.x q.n.x) (anB (iEq p.n.y q.n.y) (anB (iEq p.n.z q.n.z) (iEq p.b q.b)))
theorem eqPB_eq (p q:Pl):eqPB p q=true ↔ q=p:=by
 obtain ⟨⟨a,b,c⟩,d⟩:=p
 obtain ⟨⟨a',b',c'⟩,d'⟩:=q
 simp only [eqPB,anB_eq,iEq_eq,Bool.and_eq_true,beq_iff_eq]
 constructor
 ·rintro ⟨rfl,rfl,rfl,rfl⟩; rfl
 ·intro h; injection h with h1 h2; injection h1 with h3 h4 h5; exact ⟨h3.symm,h4.symm,h5.symm,h2.symm⟩
noncomputable def addP (fs:List Pl) (p:Pl):List Pl:=Q6 (anyB (eqPB p) fs) fs (fs++[p])
noncomputable def frP {β:Type} (a b c d:Int) (k:Pl->β):β:=fI a fun a=>fI b fun b=>fI c fun c=>fI d fun d=>k ⟨⟨a,b,c⟩,d⟩
variable {β:Type}
theorem frP_eq (a b c d:Int) (k:Pl->β):frP a b c d k=k ⟨⟨a,b,c⟩,d⟩:=by simp only [frP,fI_eq]
noncomputable def bothH (fs:List Pl) (p:Pl) (pq:Bool×Bool):List Pl := @Prod.rec Bool Bool (fun _=>List Pl) (fun pos neg=>Q6 neg (Q6 pos fs (addP fs p)) (Q6 pos (frP (iNeg p.n.x) (iNeg p.n.y) (iNeg p.n.z) (iNeg p.b) (addP fs)) (frP (iNeg p.n.x) (iNeg p.n.y) (iNeg p.n.z) (iNeg p.b) (addP (addP fs p))))) pq
noncomputable def gsI (n:V3):Nat:=Nat.gcd (Nat.gcd n.x.natAbs n.y.natAbs) n.z.natAbs
theorem gsI_eq (n:V3):gsI n=gS n:=by
 have e:gS n=Nat.gcd (Nat.gcd (Nat.gcd 0 n.x.natAbs) n.y.natAbs) n.z.natAbs:=rfl
 rw [e,Nat.gcd_zero_left]; rfl
noncomputable def oneH (l:List V3) (fs:List Pl) (a n:V3) (d:Int):List Pl := @Prod.rec Bool Bool (fun _=>List Pl)
 (fun pos neg=>Q6 (anB pos neg) fs (fN (gsI n) fun g => @Nat.rec (fun _=>List Pl) fs (fun _ _=>frP (n.x.tdiv g) (n.y.tdiv g) (n.z.tdiv g) (d.tdiv g) fun p=>bothH fs p (pos,neg)) g)) (scanH n d l false false)
noncomputable def frV {β:Type} (a b c:Int) (k:V3->β):β:=fI a fun a=>fI b fun b=>fI c fun c=>k ⟨a,b,c⟩
theorem frV_eq (a b c:Int) (k:V3->β):frV a b c k=k ⟨a,b,c⟩:=by simp only [frV,fI_eq]
noncomputable def sbI (a b:Int):Int:=iAdd a (iNeg b)
theorem sbI_eq (a b:Int):sbI a b=a-b:=by simp only [sbI,iAdd_eq,iNeg_eq]; omega
noncomputable def crI (u v:V3) (k:V3->List Pl):List Pl:=frV (sbI (iMul u.y v.z) (iMul u.z v.y)) (sbI (iMul u.z v.x) (iMul u.x v.z)) (sbI (iMul u.x v.y) (iMul u.y v.x)) k
theorem crI_eq (u v:V3) (k:V3->List Pl):crI u v k=k (cross u v):=by simp only [crI,frV_eq,sbI_eq,iMul_eq,cross]
noncomputable def suI (u v:V3) (k:V3->List Pl):List Pl:=frV (sbI u.x v.x) (sbI u.y v.y) (sbI u.z v.z) k
theorem suI_eq (u v:V3) (k:V3->List Pl):suI u v k=k (sub u v):=by simp only [suI,frV_eq,sbI_eq,sub]
noncomputable def triH (l:List V3) (fs:List Pl) (a b c:V3):List Pl:=suI b a fun u=>suI c a fun v=>crI u v fun n=>fI (dotI n a) fun d=>oneH l fs a n d
noncomputable def innH (l:List V3) (b c:V3) (t:List V3) (fs:List Pl):List Pl := @List.rec V3 (fun _=>List Pl->List Pl) (fun fs=>fs) (fun a _ ih fs=>ih (triH l fs a b c)) t fs
noncomputable def mdlH (l:List V3) (c:V3) (pre:List V3) (t:List V3) (fs:List Pl):List Pl := @List.rec V3 (fun _=>List V3->List Pl->List Pl) (fun _ fs=>fs) (fun b _ ih pre fs=>ih (pre++[b]) (innH l b c pre fs)) t pre fs
noncomputable def topH (l:List V3) (pre:List V3) (t:List V3) (fs:List Pl):List Pl := @List.rec V3 (fun _=>List V3->List Pl->List Pl) (fun _ fs=>fs) (fun c _ ih pre fs=>ih (pre++[c]) (mdlH l c [] pre fs)) t pre fs
noncomputable def faceQ (l:List V3):List Pl:=topH l [] l []
theorem addP_eq (fs:List Pl) (p:Pl):addP fs p=(match decide (p∈fs) with | true=>fs | false=>fs++[p]):=by
 unfold addP
 rw [anyB_eq,QJ]
 by_cases h:p∈fs
 ·rw [if_pos (List.any_eq_true.2 ⟨p,h,(eqPB_eq p p).2 rfl⟩),decide_eq_true h]
 ·rw [if_neg (fun h'=>by obtain ⟨q,hq,h2⟩:=List.any_eq_true.1 h'; rw [(eqPB_eq p q).1 h2] at hq; exact h hq),decide_eq_false h]
variable {fs:List Pl}
theorem accG_add {l:List V3} {p:Pl} (hv:QD p=true):accG l fs p=if (l.any fun v=>decide (p.b<dot p.n v))=true then fs else addP fs p:=by
 unfold accG beyF
 rw [hv]
 show (match l.any (fun v=>decide (p.b<dot p.n v)) with | true=>fs | false=>_)=_
 cases l.any (fun v=>decide (p.b<dot p.n v))
 ·rw [addP_eq]; rfl
 ·rfl
theorem any_c {l:List V3} {f g:V3->Bool} (h:∀ v,f v=g v):l.any f=l.any g:=by rw [show f=g from funext h]
theorem oneH_eq {l:List V3} {a n:V3} (hn:Bd 4608 n) (ha:inS a=true):oneH l fs a n (dot n a)=triG l fs a n:=by
 unfold oneH triG
 rw [scanH_eq]
 show Q6 (anB _ _) fs _=_
 simp only [Bool.false_or,QJ,anB_eq,fN_eq,gsI_eq]
 by_cases h0:gS n=0
 ·obtain ⟨d1,d2,d3⟩:=gS_dv n
  rw [h0,Int.natCast_zero,Int.zero_dvd] at d1 d2 d3
  have e:n=⟨0,0,0⟩:=by
   obtain ⟨x,y,z⟩:=n
   simp only at d1 d2 d3
   rw [d1,d2,d3]
  rw [decide_eq_true h0]
  subst e
  have:∀ u:V3,dot ⟨0,0,0⟩ u=0:=fun u=>by simp [dot]
  simp only [this]
  rw [if_neg (by simp)]
  rfl
 ·rw [decide_eq_false h0]
  obtain ⟨m1,m2,m3⟩:=prim_mul' n h0
  have hd:dot n a=gS n*dot (Qj n) a:=by
   simp only [dot]
   calc n.x*a.x+n.y*a.y+n.z*a.z=(gS n*(Qj n).x)*a.x+(gS n*(Qj n).y)*a.y+(gS n*(Qj n).z)*a.z:=by rw [← m1,← m2,← m3]
    _=gS n*((Qj n).x*a.x+(Qj n).y*a.y+(Qj n).z*a.z):=by rw [Int.mul_add,Int.mul_add,Int.mul_assoc,Int.mul_assoc,Int.mul_assoc]
  have hdv:∀ v:V3,dot n v=gS n*dot (Qj n) v:=fun v=>by
   simp only [dot]
   calc n.x*v.x+n.y*v.y+n.z*v.z=(gS n*(Qj n).x)*v.x+(gS n*(Qj n).y)*v.y+(gS n*(Qj n).z)*v.z:=by rw [← m1,← m2,← m3]
    _=gS n*((Qj n).x*v.x+(Qj n).y*v.y+(Qj n).z*v.z):=by rw [Int.mul_add,Int.mul_add,Int.mul_assoc,Int.mul_assoc,Int.mul_assoc]
  have hg0:(0:Int)<gS n:=by omega
  have s1:∀ v,decide (dot n a<dot n v)=decide ((Ji a (Qj n)).b<dot (Ji a (Qj n)).n v):=fun v=>by
   rw [hd,hdv v,decide_eq_decide]; exact Int.mul_lt_mul_left hg0
  have s2:∀ v,decide (dot n v<dot n a)=decide ((flpF (Ji a (Qj n))).b<dot (flpF (Ji a (Qj n))).n v):=fun v=>by
   have e:dot (flpF (Ji a (Qj n))).n v = -dot (Qj n) v:=by simp only [flpF,Ji,dot,Int.neg_mul]; omega
   rw [hd,hdv v,decide_eq_decide,e]
   show _ ↔ -dot (Qj n) a<_
   rw [Int.mul_lt_mul_left hg0]; omega
  have hp:(⟨⟨n.x.tdiv (gS n),n.y.tdiv (gS n),n.z.tdiv (gS n)⟩,(dot n a).tdiv (gS n)⟩:Pl)=Ji a (Qj n):=by
   unfold Ji
   have e1:(dot n a).tdiv (gS n)=dot (Qj n) a:=by rw [hd]; exact Int.mul_tdiv_cancel_left _ (by omega)
   rw [e1]
   congr 1
   unfold Qj
   rw [if_neg h0]
  have hv:=val_pln hn ha h0
  rw [any_c s1,any_c s2]
  obtain ⟨g,hg⟩:∃ g,gS n=g+1:=⟨gS n-1,by omega⟩
  rw [show (@Nat.rec (fun _=>List Pl) fs (fun _ _=>frP (n.x.tdiv (gS n)) (n.y.tdiv (gS n)) (n.z.tdiv (gS n)) ((dot n a).tdiv (gS n)) fun p=>bothH fs p (l.any fun v=>decide ((Ji a (Qj n)).b<dot (Ji a (Qj n)).n v),l.any fun v=>decide ((flpF (Ji a (Qj n))).b<dot (flpF (Ji a (Qj n))).n v))) (gS n)) =
   bothH fs (Ji a (Qj n)) (l.any fun v=>decide ((Ji a (Qj n)).b<dot (Ji a (Qj n)).n v),l.any fun v=>decide ((flpF (Ji a (Qj n))).b<dot (flpF (Ji a (Qj n))).n v)) from by
    rw [← hp,hg]; exact frP_eq _ _ _ _ _]
  show _=accG l (accG l fs (Ji a (Qj n))) (flpF (Ji a (Qj n)))
  rw [accG_add hv,accG_add (val_flp hv)]
  generalize (l.any fun v=>decide ((Ji a (Qj n)).b<dot (Ji a (Qj n)).n v))=P1
  generalize (l.any fun v=>decide ((flpF (Ji a (Qj n))).b<dot (flpF (Ji a (Qj n))).n v))=P2
  unfold bothH
  have hf:∀ k:Pl->List Pl,frP (iNeg (Ji a (Qj n)).n.x) (iNeg (Ji a (Qj n)).n.y) (iNeg (Ji a (Qj n)).n.z) (iNeg (Ji a (Qj n)).b) k=k (flpF (Ji a (Qj n))):=fun k=>by
   rw [frP_eq]; simp only [iNeg_eq,flpF]
  cases P1 <;> cases P2 <;> simp [QJ,hf]
theorem triH_eq {l:List V3} {a b c:V3} (ha:inS a=true) (hb:inS b=true) (hc:inS c=true):triH l fs a b c=triG l fs a (cross (sub b a) (sub c a)):=by
 unfold triH
 rw [suI_eq,suI_eq,crI_eq,fI_eq,dotI_eq]
 exact oneH_eq (by rw [← thN_eq ha hb hc]; exact thN_bd ha hb hc) ha
theorem take_at {l:List V3} {k:Nat} (h:k<l.length):l.take (k+1)=l.take k++[l.getD k dV]:=by
 rw [List.take_add_one,List.getElem?_eq_getElem h,List.getD_eq_getElem?_getD,List.getElem?_eq_getElem h]; rfl
theorem innH_app (l:List V3) (b c:V3):∀ (t u:List V3) (fs:List Pl),innH l b c (t++u) fs=innH l b c u (innH l b c t fs)
 | [],u,fs=>rfl
 | a::t,u,fs=>by
  show innH l b c (t++u) (triH l fs a b c)=innH l b c u (innH l b c t (triH l fs a b c))
  exact innH_app l b c t u _
theorem innH_eq {l:List V3} (hin:∀ v∈l,inS v=true) {b c:V3} (hb:inS b=true) (hc:inS c=true) (fs:List Pl):∀ k,k<=l.length->innH l b c (l.take k) fs=innG l b c fs k
 | 0,_=>rfl
 | k+1,h=>by
  rw [take_at (by omega),innH_app,innH_eq hin hb hc fs k (by omega)]
  show triH l (innG l b c fs k) (l.getD k dV) b c=triG l (innG l b c fs k) (l.getD k dV) _
  exact triH_eq (inGetD hin k) hb hc
theorem mdlH_app (l:List V3) (c:V3):∀ (t u pre:List V3) (fs:List Pl),mdlH l c pre (t++u) fs=mdlH l c (pre++t) u (mdlH l c pre t fs)
 | [],u,pre,fs=>by rw [List.append_nil]; rfl
 | b::t,u,pre,fs=>by
  show mdlH l c (pre++[b]) (t++u) (innH l b c pre fs)=mdlH l c (pre++b::t) u (mdlH l c (pre++[b]) t (innH l b c pre fs))
  rw [mdlH_app l c t u,List.append_assoc]; rfl
theorem mdlH_eq {l:List V3} (hin:∀ v∈l,inS v=true) {c:V3} (hc:inS c=true) (fs:List Pl):∀ j,j<=l.length->mdlH l c [] (l.take j) fs=mdlG l c fs j
 | 0,_=>rfl
 | j+1,h=>by
  rw [take_at (by omega),mdlH_app,mdlH_eq hin hc fs j (by omega),List.nil_append]
  show innH l (l.getD j dV) c (l.take j) (mdlG l c fs j)=innG l (l.getD j dV) c (mdlG l c fs j) j
  exact innH_eq hin (inGetD hin j) hc _ j (by omega)
theorem topH_app (l:List V3):∀ (t u pre:List V3) (fs:List Pl),topH l pre (t++u) fs=topH l (pre++t) u (topH l pre t fs)
 | [],u,pre,fs=>by rw [List.append_nil]; rfl
 | c::t,u,pre,fs=>by
  show topH l (pre++[c]) (t++u) (mdlH l c [] pre fs)=topH l (pre++c::t) u (topH l (pre++[c]) t (mdlH l c [] pre fs))
  rw [topH_app l t u,List.append_assoc]; rfl
theorem topH_eq {l:List V3} (hin:∀ v∈l,inS v=true):∀ i,i<=l.length->topH l [] (l.take i) []=topG l i
 | 0,_=>rfl
 | i+1,h=>by
  rw [take_at (by omega),topH_app,topH_eq hin i (by omega),List.nil_append]
  show mdlH l (l.getD i dV) [] (l.take i) (topG l i)=mdlG l (l.getD i dV) (topG l i) i
  exact mdlH_eq hin (inGetD hin i) _ i (by omega)
theorem faceQ_eq {l:List V3} (hin:∀ v∈l,inS v=true):faceQ l=(topF l l.length).2:=by
 rw [faceG_eq hin]
 have:=topH_eq hin l.length (Nat.le_refl _)
 rw [List.take_length] at this
 exact this
end Go.Proofs.YthmbjgnjfjjibaaGreatDoor
namespace Go.Proofs.YthmbjgnjfjjibaaGreatDoor
open Go.RowKit
set_option maxRecDepth 100000
def lkN:List (Nat×Nat)->Nat->Nat
 | [],_=>0
 | x::l,n=>match Nat.beq x.1 n with | true=>x.2 | false=>lkN l n
def rkT (l:List (Nat×Nat)) (f n:Nat):Bool:=match Nat.beq f 269 with
 | true=>Nat.ble n (lkN l f)&&Nat.ble (lkN l f) (n+5)
 | false=>Nat.beq (lkN l f) n
def rkA:List (Nat×Nat):=[(39,1),(70,0),(82,0),(122,2),(124,0),(162,1),(172,6),(174,10),(182,2),(192,0),(204,13),(205,0),(207,4),(208,1),(209,0),(218,5),(219,2),(220,9),(222,3),(243,0),(244,12),(245,2),(246,0),(247,8),(248,3),(251,3),(252,1),(253,0),(258,4),(269,11),(270,0),(271,1),(272,2),(281,0),(290,3),(293,5),(295,3),(297,3),(298,0),(314,4),(325,3)]
def rkB:List (Nat×Nat):=[(4,27),(9,25),(12,7),(13,0),(14,1),(15,1),(16,1),(17,1),(18,0),(19,0),(20,25),(21,12),(22,26),(23,23),(24,0),(26,9),(27,0),(31,3),(32,6),(33,0),(34,0),(35,0),(36,14),(37,22),(38,11),(39,1),(40,7),(41,20),(42,8),(43,0),(44,5),(45,0),(46,14),(47,4),(48,0),(49,22),(54,24),(56,2),(57,5),(58,13),(59,6),(60,12),(61,2),(62,11),(63,2),(64,20),(65,21),(66,6),(67,10),(68,8),(69,7),(70,0),(71,6),(72,2),(73,1),(74,12),(75,19),(76,7),(77,3),(78,0),(79,0),(80,0),(81,4),(82,0),(83,0),(84,13),(85,1),(86,1),(87,0),(88,0),(89,1),(90,21),(91,5),(92,11),(93,1),(102,4),(103,0),(104,11),(105,11),(106,0),(107,1),(108,0),(109,1),(112,0),(113,0),(114,7),(115,0),(116,5),(117,16),(118,20),(119,0),(120,9),(121,3),(122,2),(123,5),(124,0),(125,0),(126,2),(127,3),(128,18),(129,11),(130,18),(131,0),(132,11),(133,0),(134,2),(135,0),(136,0),(137,4),(138,1),(139,0),(144,3),(145,2),(146,1),(149,5),(150,10),(151,1),(154,0),(155,6),(156,4),(157,3),(158,15),(159,0),(160,7),(161,5),(162,1),(163,1),(164,2),(165,0),(166,17),(167,0),(168,1),(169,0),(170,1),(171,0),(172,10),(173,15),(174,14),(175,8),(176,7),(177,0),(178,0),(179,0),(180,0),(181,1),(182,2),(183,0),(184,0),(186,4),(187,1),(188,2),(189,6),(190,3),(191,0),(192,0),(199,0),(200,3),(201,2),(202,14),(203,1),(204,13),(205,0),(209,0),(212,0),(213,0),(214,1),(217,16),(218,9),(219,2),(220,13),(221,4),(222,3),(223,0),(224,3),(225,0),(226,5),(227,0),(228,3),(229,0),(230,2),(231,9),(232,0),(233,8),(239,1),(240,8),(241,7),(242,10),(243,0),(244,12),(245,2),(246,0),(247,12),(248,3),(252,1),(253,0),(254,0),(258,4),(259,4),(260,1),(261,3),(262,2),(263,6),(264,7),(268,1),(269,11),(270,0),(271,1),(281,0),(285,0),(286,0),(287,1),(288,5),(289,6),(290,3),(293,5),(295,3),(297,3),(298,0),(308,1),(309,4),(310,1),(311,5),(314,4),(317,0),(318,0),(319,1),(320,0),(321,4),(325,3),(327,3),(328,0),(329,0),(345,0),(346,0),(347,0),(348,3),(349,2),(350,1)]
-- planes and points as data
def toPl:List AV->Option Pl
 | [.int .i64 a,.int .i64 b,.int .i64 c,.int .i64 d]=>some ⟨⟨a,b,c⟩,d⟩
 | _=>none
def toPls:List (List AV)->Option (List Pl)
 | []=>some []
 | e::l=>match toPl e,toPls l with
  | some p,some r=>some (p::r)
  | _,_=>none
def toV:List AV->Option V3
 | [.int .i64 a,.int .i64 b,.int .i64 c]=>some ⟨a,b,c⟩
 | _=>none
def toVs:List (List AV)->Option (List V3)
 | []=>some []
 | e::l=>match toV e,toVs l with
  | some p,some r=>some (p::r)
  | _,_=>none
theorem toPl_ok {e:List AV} {p:Pl} (h:toPl e=some p):e=cPl p:=by
 unfold toPl at h
 split at h
 ·injection h with h; subst h; rfl
 ·cases h
theorem toPls_ok:∀ {els:List (List AV)} {l:List Pl},toPls els=some l->els=l.map cPl
 | [],l,h=>by injection h with h; subst h; rfl
 | e::els,l,h=>by
  unfold toPls at h
  split at h
  ·rename_i p r h1 h2
   injection h with h; subst h
   rw [toPl_ok h1,toPls_ok h2]; rfl
  ·cases h
theorem toV_ok {e:List AV} {p:V3} (h:toV e=some p):e=cV p:=by
 unfold toV at h
 split at h
 ·injection h with h; subst h; rfl
 ·cases h
theorem toVs_ok:∀ {els:List (List AV)} {l:List V3},toVs els=some l->els=l.map cV
 | [],l,h=>by injection h with h; subst h; rfl
 | e::els,l,h=>by
  unfold toVs at h
  split at h
  ·rename_i p r h1 h2
   injection h with h; subst h
   rw [toV_ok h1,toVs_ok h2]; rfl
  ·cases h
noncomputable def oBool (b:Bool):Option AV := @Bool.rec (fun _=>Option AV) (some (.bool false)) (some (.bool true)) b
theorem oBool_eq (b:Bool):oBool b=some (.bool b):=by cases b <;> rfl
noncomputable def oInt (n:Int):Option AV:=fI n fun n=>some (.int .i64 n)
theorem oInt_eq (n:Int):oInt n=some (.int .i64 n):=by simp only [oInt,fI_eq]
noncomputable def oraIn (vs:List AV):Option AV:=match vs with
 | [.agg e]=>match toV e with
  | some v=>oBool (inQ v)
  | none=>none
 | _=>none
noncomputable def oraVal (vs:List AV):Option AV:=match vs with
 | [.agg e]=>match toPl e with
  | some p=>oBool (validQ p)
  | none=>none
 | _=>none
noncomputable def oraSide (vs:List AV):Option AV:=match vs with
 | [.agg e,.agg e2]=>match toPl e,toV e2 with
  | some p,some v=>oInt (sideQ p v)
  | _,_=>none
 | _=>none
noncomputable def oraCmp (vs:List AV):Option AV:=match vs with
 | [.agg e,.agg e2]=>match toV e,toV e2 with
  | some p,some v=>oInt (vcmpQ p v)
  | _,_=>none
 | _=>none
noncomputable def oraS (f:Nat) (vs:List AV):Option AV:=match Nat.beq f 39 with
 | true=>oraIn vs
 | false=>match Nat.beq f 122 with
  | true=>oraVal vs
  | false=>match Nat.beq f 222 with
   | true=>oraSide vs
   | false=>match Nat.beq f 245 with
    | true=>oraCmp vs
    | false=>none
theorem oraS_ok (f:Nat) (vs:List AV) (r:AV) (h:oraS f vs=some r):FC Tryz.prog f vs [] r [] false:=by
 unfold oraS at h
 split at h
 ·rename_i hf; obtain rfl:=Nat.eq_of_beq_eq_true hf
  unfold oraIn at h
  split at h
  ·split at h
   ·rename_i v hv
    rw [oBool_eq] at h; injection h with h; subst h
    rw [toV_ok hv,inQ_eq]; exact fc40 v
   ·cases h
  ·cases h
 ·split at h
  ·rename_i hf; obtain rfl:=Nat.eq_of_beq_eq_true hf
   unfold oraVal at h
   split at h
   ·split at h
    ·rename_i p hp
     rw [oBool_eq] at h; injection h with h; subst h
     rw [toPl_ok hp,validQ_eq]; exact vc157 p
    ·cases h
   ·cases h
  ·split at h
   ·rename_i hf; obtain rfl:=Nat.eq_of_beq_eq_true hf
    unfold oraSide at h
    split at h
    ·split at h
     ·rename_i p v hp hv
      rw [oInt_eq] at h; injection h with h; subst h
      rw [toPl_ok hp,toV_ok hv,sideQ_eq]; exact vc222 p v
     ·cases h
    ·cases h
   ·split at h
    ·rename_i hf; obtain rfl:=Nat.eq_of_beq_eq_true hf
     unfold oraCmp at h
     split at h
     ·split at h
      ·rename_i p v hp hv
       rw [oInt_eq] at h; injection h with h; subst h
       rw [toV_ok hp,toV_ok hv,vcmpQ_eq]; exact hc245 p v
      ·cases h
     ·cases h
    ·cases h
noncomputable def opr (o:Option AV):PR := @Option.rec AV (fun _=>PR) .no (fun r=>.ok r false) o
variable {r:AV}
theorem opr_ok {f:Nat} {vs:List AV} {o:Option AV} {al:Bool} (e:opr o = .ok r al) (h:∀ r,o=some r->FC Tryz.prog f vs [] r [] false):(al=false->FC Tryz.prog f vs [] r [] false)/\(al=true->FC Tryz.prog f vs [] r [] true/\Qi vs=true):=by
 cases o with
 | none=>cases e
 | some r' =>
  have e:PR.ok r' false = .ok r al:=e
  injection e with e1 e2
  subst e1 e2
  exact ⟨fun _=>h _ rfl,fun e=>(by cases e)⟩
noncomputable def polA:Pol:=⟨memN [205,207,243,244,246,247,251,269,272,290,293,295,297,314,325],rkT rkA,fun _=>none,[],fun f vs=>opr (oraS f vs)⟩
theorem noG:GOK ([]:Hp) (fun _=>none) []:=⟨fun i ob e=>by simp [get] at e,fun g cs e=>by cases e⟩
theorem levA (n:Nat):SCl Tryz.prog [] polA.shared (lev Tryz.prog polA n false).1/\SCo Tryz.prog [] (lev Tryz.prog polA n false).2 :=
 lev_ok (G:=[]) hmix noG rfl (fun f vs r al e=>opr_ok e (oraS_ok f vs)) n false
noncomputable def clA:X5:=(lev Tryz.prog polA 14 false).1
noncomputable def coA:CoT:=(lev Tryz.prog polA 14 false).2
noncomputable def evA (f:Nat) (vs:List AV):PR:=pureE Tryz.prog polA [] (fun _=>none) clA coA f vs
theorem evA_ok {f:Nat} {vs:List AV} (e:evA f vs = .ok r false):FC Tryz.prog f vs [] r [] false :=
 (eval_fcn (G:=[]) (pol:=polA) (n:=14) (al':=false) hmix noG rfl (fun f vs r al e=>opr_ok e (oraS_ok f vs)) e (.inr rfl)).elim id id
-- cells
noncomputable def oraApart (vs:List AV):Option AV:=match vs with
 | [.rs 4 ea,.rs 4 eb]=>match toPls ea,toPls eb with
  | some a,some b=>match Nat.ble 1 (a.length+b.length)&&(Nat.ble a.length 100&&Nat.ble b.length 100) with
   | true=>some (.bool (apartQ a b))
   | false=>none
  | _,_=>none
 | _=>none
theorem oraApart_ok {vs:List AV} (h:oraApart vs=some r):FC Tryz.prog 139 vs [] r [] false:=by
 unfold oraApart at h
 split at h
 ·rename_i ea eb
  split at h
  ·rename_i a b ha hb
   split at h
   ·rename_i hc
    injection h with h; subst h
    rw [Bool.and_eq_true,Bool.and_eq_true] at hc
    rw [toPls_ok ha,toPls_ok hb,apartQ_eq]
    exact vc89g a b (Nat.le_of_ble_eq_true hc.1) (Nat.le_of_ble_eq_true hc.2.1) (Nat.le_of_ble_eq_true hc.2.2)
   ·cases h
  ·cases h
 ·cases h
noncomputable def oraFull (vs:List AV):Option AV:=match vs with
 | [.rs 4 ea]=>match toPls ea with
  | some a=>match Nat.ble 1 a.length&&Nat.ble a.length 100 with
   | true=>some (.bool (fullQ a))
   | false=>none
  | none=>none
 | _=>none
theorem oraFull_ok {vs:List AV} (h:oraFull vs=some r):FC Tryz.prog 108 vs [] r [] false:=by
 unfold oraFull at h
 split at h
 ·rename_i ea
  split at h
  ·rename_i a ha
   split at h
   ·rename_i hc
    injection h with h; subst h
    rw [Bool.and_eq_true] at hc
    rw [toPls_ok ha,fullQ_eq]
    exact vc154 a ⟨Nat.le_of_ble_eq_true hc.1,Nat.le_of_ble_eq_true hc.2⟩
   ·cases h
  ·cases h
 ·cases h
-- faces
noncomputable def srtB (fu:List Pl):Cr:=bodyE Tryz.prog polA [] (fun _=>none) clA coA 207 [.sl 903 0 fu.length,.fn (.func 208) []] (row903 129 4 (fu.map cPl)) 904 (fun out H nx=>.ok (Xl out) H nx [] [])
noncomputable def srtO (o:Option Ob):Option (List Pl):=match o with
 | some (.cells e z els true)=>match Nat.beq e 129&&Nat.beq z 4 with
  | true=>toPls els
  | false=>none
 | _=>none
noncomputable def srt (fu:List Pl):Option (List Pl):=match srtB fu with
 | .ok (.tup []) h1 _ _ _=>srtO (obE h1 903)
 | _=>none
theorem srt_ok {fu fs:List Pl} (h:srt fu=some fs):FC Tryz.prog 207 [.sl 903 0 fu.length,.fn (.func 208) []] [(903,.cells 129 4 (fu.map cPl) true)] (.tup []) [(903,.cells 129 4 (fs.map cPl) true)] true:=by
 unfold srt at h
 split at h
 ·rename_i h1 n1 rd wr hb
  unfold srtO at h
  split at h
  ·rename_i e z els ho
   split at h
   ·rename_i hc
    rw [Bool.and_eq_true] at hc
    obtain rfl:=Nat.eq_of_beq_eq_true hc.1
    obtain rfl:=Nat.eq_of_beq_eq_true hc.2
    rw [toPls_ok h] at ho
    exact eval_row (pol:=polA) hmix (levA 14).1 (levA 14).2 hb ho
   ·cases h
  ·cases h
 ·cases h
noncomputable def facesR (fu:List Pl):Option AV:=match srt fu with
 | some fs=>match Nat.beq fu.length fs.length with
  | true=>some (.tup [.rs 4 (fs.map cPl),.int .i64 0])
  | false=>none
 | none=>none
noncomputable def oraFaces (vs:List AV):Option AV:=match vs with
 | [.rs 3 els]=>match toVs els,evA 174 [.rs 3 els],evA 204 [.rs 3 els] with
  | some _,.ok (.int .i64 0) false,.ok (.rs 3 els') false=>match toVs els' with
   | some l'=>match l'.all inS&&Nat.ble l'.length 100 with
    | true=>facesR (faceQ l')
    | false=>none
   | none=>none
  | _,_,_=>none
 | _=>none
theorem oraFaces_ok {vs:List AV} (h:oraFaces vs=some r):FC Tryz.prog 159 vs [] r [] false:=by
 unfold oraFaces at h
 split at h
 ·rename_i els
  split at h
  ·rename_i l els' hl h174 h204
   split at h
   ·rename_i l' hl'
    split at h
    ·rename_i hc
     rw [Bool.and_eq_true] at hc
     have hin:∀ v∈l',inS v=true:=List.all_eq_true.1 hc.1
     have hlen:l'.length<=100:=Nat.le_of_ble_eq_true hc.2
     rw [faceQ_eq hin] at h
     unfold facesR at h
     split at h
     ·rename_i fs hs
      split at h
      ·rename_i hfl
       injection h with h; subst h
       have e1:=evA_ok h174
       have e2:=evA_ok h204
       rw [toVs_ok hl] at e1 e2 ⊢
       rw [toVs_ok hl'] at e2
       have e3:=srt_ok hs
       exact hc159 l l' fs (.tup []) hlen hin e1 e2 e3 (Nat.eq_of_beq_eq_true hfl)
      ·cases h
     ·cases h
    ·cases h
   ·cases h
  ·cases h
 ·cases h
noncomputable def oraB (f:Nat) (vs:List AV):Option AV:=match Nat.beq f 159 with
 | true=>oraFaces vs
 | false=>match Nat.beq f 139 with
  | true=>oraApart vs
  | false=>match Nat.beq f 108 with
   | true=>oraFull vs
   | false=>oraS f vs
theorem oraB_ok (f:Nat) (vs:List AV) (r:AV) (h:oraB f vs=some r):FC Tryz.prog f vs [] r [] false:=by
 unfold oraB at h
 split at h
 ·rename_i hf; obtain rfl:=Nat.eq_of_beq_eq_true hf; exact oraFaces_ok h
 ·split at h
  ·rename_i hf; obtain rfl:=Nat.eq_of_beq_eq_true hf; exact oraApart_ok h
  ·split at h
   ·rename_i hf; obtain rfl:=Nat.eq_of_beq_eq_true hf; exact oraFull_ok h
   ·exact oraS_ok f vs r h
noncomputable def polB:Pol:=⟨memN [23,27,41,46,49,54,58,66,85,86,102,150,151,156,190,191,204,205,231,233,242,243,244,246,247,269,285,290,293,295,297,314,318,325,327,348,349],rkT rkB,fun _=>none,[],fun f vs=>opr (oraB f vs)⟩
end Go.Proofs.YthmbjgnjfjjibaaGreatDoor
namespace Go.Proofs.YthmbjgnjfjjibaaGreatDoor
open Go.RowKit
set_option maxRecDepth 100000
def eqK (a b:IntKind):Bool:=decide (a=b)
def eqNL:List Nat->List Nat->Bool
 | [],[]=>true
 | a::x,b::y=>Nat.beq a b&&eqNL x y
 | _,_=>false
theorem eqNL_ok:∀ {x y:List Nat},eqNL x y=true->x=y
 | [],[],_=>rfl
 | [],b::y,h=>by cases h
 | a::x,[],h=>by cases h
 | a::x,b::y,h=>by
  simp only [eqNL,Bool.and_eq_true] at h
  rw [Nat.eq_of_beq_eq_true h.1,eqNL_ok h.2]
def bytesN (b:ByteArray):List Nat:=b.data.toList.map UInt8.toNat
theorem bytesN_inj {a b:ByteArray} (h:bytesN a=bytesN b):a=b:=by
 obtain ⟨⟨x⟩⟩:=a
 obtain ⟨⟨y⟩⟩:=b
 congr 2
 have:∀ (x y:List UInt8),x.map UInt8.toNat=y.map UInt8.toNat->x=y:=by
  intro x
  induction x with
  | nil=>intro y h; cases y with
   | nil=>rfl
   | cons b y=>cases h
  | cons a x ih=>intro y h; cases y with
   | nil=>cases h
   | cons b y =>
    simp only [List.map_cons,List.cons.injEq] at h
    rw [UInt8.toNat_inj.1 h.1,ih y h.2]
 exact this x y h
variable {r:AV}
mutual
def eqV:AV->AV->Bool
 | .int k n,.int k' n'=>eqK k k'&&decide (n=n')
 | .bool a,.bool b=>a == b
 | .agg a,.agg b=>eqL a b
 | .tup a,.tup b=>eqL a b
 | .rp a,.rp b=>eqL a b
 | .rs z a,.rs z' b=>Nat.beq z z'&&eqE a b
 | .nils,.nils=>true
 | .nilp,.nilp=>true
 | .str a,.str b=>eqNL (bytesN a) (bytesN b)
 | .fn (.func a) c,.fn (.func b) d=>Nat.beq a b&&eqL c d
 | _,_=>false
def eqL:List AV->List AV->Bool
 | [],[]=>true
 | a::x,b::y=>eqV a b&&eqL x y
 | _,_=>false
def eqE:List (List AV)->List (List AV)->Bool
 | [],[]=>true
 | a::x,b::y=>eqL a b&&eqE x y
 | _,_=>false
end
mutual
theorem eqV_ok (a b:AV) (h:eqV a b=true):a=b:=by
 unfold eqV at h
 split at h
 ·simp only [Bool.and_eq_true,decide_eq_true_eq,eqK] at h
  rw [h.1,h.2]
 ·rw [eq_of_beq h]
 ·rename_i x y; rw [eqL_ok x y h]
 ·rename_i x y; rw [eqL_ok x y h]
 ·rename_i x y; rw [eqL_ok x y h]
 ·rename_i z x z' y
  rw [Bool.and_eq_true] at h
  rw [Nat.eq_of_beq_eq_true h.1,eqE_ok x y h.2]
 ·rfl
 ·rfl
 ·rw [bytesN_inj (eqNL_ok h)]
 ·rename_i g c g' d
  rw [Bool.and_eq_true] at h
  rw [Nat.eq_of_beq_eq_true h.1,eqL_ok c d h.2]
 ·cases h
 termination_by SizeOf.sizeOf a
theorem eqL_ok (a b:List AV) (h:eqL a b=true):a=b:=by
 unfold eqL at h
 split at h
 ·rfl
 ·rename_i p x q y
  rw [Bool.and_eq_true] at h
  rw [eqV_ok p q h.1,eqL_ok x y h.2]
 ·cases h
 termination_by SizeOf.sizeOf a
theorem eqE_ok (a b:List (List AV)) (h:eqE a b=true):a=b:=by
 unfold eqE at h
 split at h
 ·rfl
 ·rename_i p x q y
  rw [Bool.and_eq_true] at h
  rw [eqL_ok p q h.1,eqE_ok x y h.2]
 ·cases h
 termination_by SizeOf.sizeOf a
end
theorem fc_true {f:Nat} {vs:List AV} {al:Bool} (h:FC Tryz.prog f vs [] r [] al):FC Tryz.prog f vs [] r [] true:=by
 cases al with
 | true=>exact h
 | false =>
  intro w S ρ cargs hH hv
  refine Calls.mono (h w S ρ cargs hH hv) ?_
  rintro e w' ⟨cv,S',ρ',h1,h2,h3,h4,h5,h6,h7,h8⟩
  exact ⟨cv,S',ρ',h1,h2,h3,h4,fun b hb=>(h5 b hb).imp (fun h=>by cases h.1) id,h6,h7,h8⟩
def Fct (f:Nat) (vs:List AV) (r:AV):Prop:=FC Tryz.prog f vs [] r [] true/\Qi vs=true
noncomputable def chk (p:PR) (r:AV):Bool:=match p with
 | .ok v _=>eqV v r
 | .no=>false
theorem QP {f:Nat} {vs:List AV} {ora:Nat->List AV->PR} (ho:OraOK Tryz.prog ora) (h:(chk (ora f vs) r&&Qi vs)=true):Fct f vs r:=by
 rw [Bool.and_eq_true] at h
 refine ⟨?_,h.2⟩
 have h:=h.1
 unfold chk at h
 split at h
 ·rename_i v al hv
  rw [← eqV_ok _ _ h]
  obtain ⟨h1,h2⟩:=ho f vs v al hv
  cases al with
  | true=>exact (h2 rfl).1
  | false=>exact fc_true (h1 rfl)
 ·cases h
def FctL (l:List (Nat×List AV×AV)):Prop:=∀ x∈l,Fct x.1 x.2.1 x.2.2
def fndL:List (Nat×List AV×AV)->Nat->List AV->Option AV
 | [],_,_=>none
 | x::l,f,vs=>match Nat.beq x.1 f with
  | true=>match eqL x.2.1 vs with
   | true=>some x.2.2
   | false=>fndL l f vs
  | false=>fndL l f vs
theorem fndL_ok:∀ {l:List (Nat×List AV×AV)},FctL l->∀ {f:Nat} {vs:List AV} {r:AV},fndL l f vs=some r->Fct f vs r
 | [],_,f,vs,r,h=>by cases h
 | x::l,hl,f,vs,r,h=>by
  unfold fndL at h
  split at h
  ·rename_i hf
   split at h
   ·rename_i hv
    injection h with h; subst h
    have:=hl x (by simp)
    rw [Nat.eq_of_beq_eq_true hf,eqL_ok _ _ hv] at this
    exact this
   ·exact fndL_ok (fun y hy=>hl y (by simp [hy])) h
  ·exact fndL_ok (fun y hy=>hl y (by simp [hy])) h
end Go.Proofs.YthmbjgnjfjjibaaGreatDoor
namespace Go.Proofs.YthmbjgnjfjjibaaGreatDoor
open Go.RowKit
set_option maxRecDepth 100000
def tl0:AV:=(.agg [(.str ⟨#[109,105,108,108]⟩),(.rs 3 [[(.int .i64 (-4)),(.int .i64 (-4)),(.int .i64 0)],[(.int .i64 (-4)),(.int .i64 (-4)),(.int .i64 7)],[(.int .i64 (-4)),(.int .i64 4),(.int .i64 0)],[(.int .i64 (-4)),(.int .i64 4),(.int .i64 7)],[(.int .i64 4),(.int .i64 (-4)),(.int .i64 0)],[(.int .i64 4),(.int .i64 (-4)),(.int .i64 7)],[(.int .i64 4),(.int .i64 4),(.int .i64 0)],[(.int .i64 4),(.int .i64 4),(.int .i64 7)]]),(.rs 1 [[(.rs 3 [[(.int .i64 (-4)),(.int .i64 (-4)),(.int .i64 0)],[(.int .i64 (-4)),(.int .i64 (-4)),(.int .i64 7)],[(.int .i64 (-4)),(.int .i64 4),(.int .i64 0)],[(.int .i64 (-4)),(.int .i64 4),(.int .i64 7)],[(.int .i64 4),(.int .i64 (-4)),(.int .i64 0)],[(.int .i64 4),(.int .i64 (-4)),(.int .i64 7)],[(.int .i64 4),(.int .i64 4),(.int .i64 0)],[(.int .i64 4),(.int .i64 4),(.int .i64 7)]])]]),(.rs 3 [[(.int .i64 (-5)),(.int .i64 (-5)),(.int .i64 9)],[(.int .i64 (-5)),(.int .i64 (-5)),(.int .i64 12)],[(.int .i64 (-5)),(.int .i64 5),(.int .i64 9)],[(.int .i64 (-5)),(.int .i64 5),(.int .i64 12)],[(.int .i64 5),(.int .i64 (-5)),(.int .i64 9)],[(.int .i64 5),(.int .i64 (-5)),(.int .i64 12)],[(.int .i64 5),(.int .i64 5),(.int .i64 9)],[(.int .i64 5),(.int .i64 5),(.int .i64 12)]]),(.rs 1 [[(.int .i64 20000)]]),(.int .i64 0),(.rs 3 [[(.int .i64 0),(.int .i64 0),(.int .i64 (-4))]])])
variable {r:AV}
theorem fct_polB {f:Nat} {vs:List AV} (h:(chk (evalN Tryz.prog polB 28 f vs) r&&Qi vs)=true):Fct f vs r:=by
 rw [Bool.and_eq_true] at h
 refine ⟨?_,h.2⟩
 have h:=h.1
 unfold chk at h
 split at h
 ·rename_i v al hv
  rw [← eqV_ok _ _ h]
  rcases eval_fcn (G:=[]) (pol:=polB) (n:=28) (al':=true) hmix noG rfl (fun f vs r al e=>opr_ok e (oraB_ok f vs)) hv (.inl rfl) with h | h
  ·exact fc_true h
  ·exact h
 ·cases h
theorem tchk:Fct 75 [tl0] (.int .i64 0):=fct_polB (by kernel_rfl)
noncomputable def oraT (f:Nat) (vs:List AV):PR:=match Nat.beq f 75 with
 | true=>match eqL vs [tl0] with
  | true=>.ok (.int .i64 0) true
  | false=>opr (oraB f vs)
 | false=>opr (oraB f vs)
theorem oraT_ok:OraOK Tryz.prog oraT:=fun f vs r al h=>by
 unfold oraT at h
 split at h
 ·rename_i hf
  split at h
  ·rename_i hv
   injection h with h1 h2
   subst h1 h2
   have:=tchk
   rw [← Nat.eq_of_beq_eq_true hf,← eqL_ok _ _ hv] at this
   exact ⟨fun e=>(by cases e),fun _=>this⟩
  ·exact opr_ok h (oraB_ok f vs)
 ·exact opr_ok h (oraB_ok f vs)
noncomputable def polT:Pol:=⟨polB.shared,rkT rkB,fun _=>none,[],oraT⟩
theorem levT (n:Nat):SCl Tryz.prog [] polT.shared (lev Tryz.prog polT n false).1/\SCo Tryz.prog [] (lev Tryz.prog polT n false).2 :=
 lev_ok (G:=[]) hmix noG rfl oraT_ok n false
noncomputable def clT:X5:=(lev Tryz.prog polT 28 false).1
noncomputable def coT:CoT:=(lev Tryz.prog polT 28 false).2
noncomputable def Jw (f:Nat) (vs:List AV):PR:=match Nat.beq f 118 with
 | true=>ora118 polT.shared clT coT vs
 | false=>match Nat.beq f 64 with
  | true=>ora64 polT.shared clT coT vs
  | false=>oraT f vs
theorem QO:OraOK Tryz.prog Jw:=fun f vs r al h=>by
 unfold Jw at h
 split at h
 ·rename_i hf; obtain rfl:=Nat.eq_of_beq_eq_true hf; exact ora118_ok (levT 28).1 (levT 28).2 h
 ·split at h
  ·rename_i hf; obtain rfl:=Nat.eq_of_beq_eq_true hf; exact ora64_ok (levT 28).1 (levT 28).2 h
  ·exact oraT_ok f vs r al h
def idn:List AV:=[.int .i64 1,.int .i64 0,.int .i64 0,.int .i64 0,.int .i64 1,.int .i64 0,.int .i64 0,.int .i64 0,.int .i64 1]
def Gid:Hp:=[(5000000,.glob 0 idn)]
noncomputable def glC:GlT:=fun g=>match g with | 0=>some idn | _=>none
noncomputable def polC:Pol:=⟨memN [23,27,41,46,49,54,58,66,85,86,102,150,151,156,190,191,204,205,231,233,242,243,244,246,247,269,285,290,293,295,297,314,318,325,327,348,349],rkT rkB,glC,[5000000],Jw⟩
theorem gokC:GOK Gid polC.gl polC.gk where
 far:=fun i ob e=>by
  simp only [Gid,get] at e
  split at e
  ·rename_i h; subst h; injection e with e; subst e; exact ⟨by decide,by simp [polC],0,idn,rfl⟩
  ·cases e
 gl:=fun g cs e=>by
  cases g with
  | zero=>injection e with e; subst e; rfl
  | succ g=>cases e
noncomputable def isTrue (r:PR):Bool:=match r with | .ok (.bool true) _=>true | _=>false
noncomputable def oraF (l:List (Nat×List AV×AV)) (f:Nat) (vs:List AV):PR:=match fndL l f vs with
 | some r=>.ok r true
 | none=>oraT f vs
theorem oraF_ok {l:List (Nat×List AV×AV)} (hl:FctL l):OraOK Tryz.prog (oraF l):=fun f vs r al h=>by
 unfold oraF at h
 split at h
 ·rename_i r' hr
  injection h with h1 h2
  subst h1 h2
  obtain ⟨h3,h4⟩:=fndL_ok hl hr
  exact ⟨fun e=>(by cases e),fun _=>⟨h3,h4⟩⟩
 ·exact oraT_ok f vs r al h
noncomputable def polF (l:List (Nat×List AV×AV)):Pol:=⟨polC.shared,rkT rkB,glC,[5000000],oraF l⟩
noncomputable def evF (l:List (Nat×List AV×AV)) (f:Nat) (vs:List AV):PR:=evalP Tryz.prog (polF l) 28 f vs
theorem evF_fc {l:List (Nat×List AV×AV)} (hl:FctL l) {f:Nat} {vs:List AV} {al:Bool} (e:evF l f vs = .ok r al):FC Tryz.prog f vs [] r [] false\/FC Tryz.prog f vs Gid r Gid true :=
 eval_fc (G:=Gid) (pol:=polF l) hmix gokC rfl (oraF_ok hl) e
noncomputable def evN (l:List (Nat×List AV×AV)) (f:Nat) (vs:List AV):PR:=evalN Tryz.prog (polF l) 28 f vs
theorem QW {l:List (Nat×List AV×AV)} (hl:FctL l) {f:Nat} {vs:List AV} (h:(chk (evN l f vs) r&&Qi vs)=true):Fct f vs r:=by
 rw [Bool.and_eq_true] at h
 refine ⟨?_,h.2⟩
 have h:=h.1
 unfold chk at h
 split at h
 ·rename_i v al hv
  rw [← eqV_ok _ _ h]
  rcases eval_fcn (G:=Gid) (pol:=polF l) (n:=28) (al':=true) hmix gokC rfl (oraF_ok hl) hv (.inl rfl) with h | h
  ·exact fc_true h
  ·exact h
 ·cases h
end Go.Proofs.YthmbjgnjfjjibaaGreatDoor
namespace Go.Proofs.YthmbjgnjfjjibaaGreatDoor
set_option maxRecDepth 100000
def fa0:List AV:=[tl0,(.int .i64 0),(.agg [(.int .i64 1),(.int .i64 (-16)),(.int .i64 (-4)),(.int .i64 8),(.int .i64 (-16)),(.int .i64 (-4)),(.int .i64 (-3)),(.int .i64 0),(.int .i64 0),(.int .i64 0),(.int .i64 0)]),(.int .i64 0),(.int .i64 11),(.agg [(.int .i64 1),(.int .i64 1),(.int .i64 1)])]
def fr0:AV:=(.tup [.nils,(.int .i64 0)])
def fa1:List AV:=[tl0,(.fn (.func 119) []),(.agg [(.int .i64 1),(.int .i64 (-16)),(.int .i64 (-4)),(.int .i64 8),(.int .i64 (-16)),(.int .i64 (-4)),(.int .i64 (-3)),(.int .i64 0),(.int .i64 0),(.int .i64 0),(.int .i64 0)]),(.int .i64 0),(.int .i64 11),(.agg [(.int .i64 1),(.int .i64 1),(.int .i64 1)])]
def fr1:AV:=(.tup [(.rs 4 [[(.int .i64 (-1)),(.int .i64 0),(.int .i64 0),(.int .i64 21)],[(.int .i64 0),(.int .i64 (-1)),(.int .i64 0),(.int .i64 9)],[(.int .i64 0),(.int .i64 0),(.int .i64 (-1)),(.int .i64 4)],[(.int .i64 0),(.int .i64 0),(.int .i64 1),(.int .i64 16)],[(.int .i64 0),(.int .i64 1),(.int .i64 0),(.int .i64 1)],[(.int .i64 1),(.int .i64 0),(.int .i64 0),(.int .i64 (-11))]]),(.int .i64 0)])
def fa2:List AV:=[tl0,(.int .i64 0),(.agg [(.int .i64 2),(.int .i64 (-16)),(.int .i64 (-4)),(.int .i64 (-3)),(.int .i64 7),(.int .i64 (-4)),(.int .i64 (-3)),(.int .i64 0),(.int .i64 0),(.int .i64 0),(.int .i64 10)]),(.int .i64 0),(.int .i64 4),(.agg [(.int .i64 1),(.int .i64 1),(.int .i64 1)])]
def fr2:AV:=(.tup [(.rs 1 [[(.rs 4 [[(.int .i64 (-1)),(.int .i64 0),(.int .i64 0),(.int .i64 19)],[(.int .i64 0),(.int .i64 (-1)),(.int .i64 0),(.int .i64 7)],[(.int .i64 0),(.int .i64 0),(.int .i64 (-1)),(.int .i64 2)],[(.int .i64 0),(.int .i64 0),(.int .i64 1),(.int .i64 3)],[(.int .i64 0),(.int .i64 1),(.int .i64 0),(.int .i64 (-1))],[(.int .i64 1),(.int .i64 0),(.int .i64 0),(.int .i64 (-9))]])]]),(.int .i64 0)])
def fa3:List AV:=[tl0,(.fn (.func 119) []),(.agg [(.int .i64 2),(.int .i64 (-16)),(.int .i64 (-4)),(.int .i64 (-3)),(.int .i64 7),(.int .i64 (-4)),(.int .i64 (-3)),(.int .i64 0),(.int .i64 0),(.int .i64 0),(.int .i64 10)]),(.int .i64 0),(.int .i64 4),(.agg [(.int .i64 1),(.int .i64 1),(.int .i64 1)])]
def fr3:AV:=(.tup [(.rs 4 [[(.int .i64 (-1)),(.int .i64 0),(.int .i64 0),(.int .i64 21)],[(.int .i64 0),(.int .i64 (-1)),(.int .i64 0),(.int .i64 9)],[(.int .i64 0),(.int .i64 0),(.int .i64 (-1)),(.int .i64 4)],[(.int .i64 0),(.int .i64 0),(.int .i64 1),(.int .i64 5)],[(.int .i64 0),(.int .i64 1),(.int .i64 0),(.int .i64 1)],[(.int .i64 1),(.int .i64 0),(.int .i64 0),(.int .i64 (-7))]]),(.int .i64 0)])
def fa4:List AV:=[tl0,(.int .i64 0),(.agg [(.int .i64 2),(.int .i64 (-16)),(.int .i64 (-4)),(.int .i64 (-3)),(.int .i64 7),(.int .i64 (-4)),(.int .i64 (-3)),(.int .i64 0),(.int .i64 0),(.int .i64 0),(.int .i64 10)]),(.int .i64 0),(.int .i64 23),(.agg [(.int .i64 1),(.int .i64 1),(.int .i64 1)])]
def fr4:AV:=(.tup [(.rs 1 [[(.rs 4 [[(.int .i64 (-1)),(.int .i64 0),(.int .i64 0),(.int .i64 19)],[(.int .i64 0),(.int .i64 (-1)),(.int .i64 0),(.int .i64 7)],[(.int .i64 0),(.int .i64 0),(.int .i64 (-1)),(.int .i64 2)],[(.int .i64 0),(.int .i64 0),(.int .i64 1),(.int .i64 3)],[(.int .i64 0),(.int .i64 1),(.int .i64 0),(.int .i64 (-1))],[(.int .i64 1),(.int .i64 0),(.int .i64 0),(.int .i64 10)]])]]),(.int .i64 0)])
def fa5:List AV:=[tl0,(.fn (.func 119) []),(.agg [(.int .i64 2),(.int .i64 (-16)),(.int .i64 (-4)),(.int .i64 (-3)),(.int .i64 7),(.int .i64 (-4)),(.int .i64 (-3)),(.int .i64 0),(.int .i64 0),(.int .i64 0),(.int .i64 10)]),(.int .i64 0),(.int .i64 23),(.agg [(.int .i64 1),(.int .i64 1),(.int .i64 1)])]
def fr5:AV:=(.tup [(.rs 4 [[(.int .i64 (-1)),(.int .i64 0),(.int .i64 0),(.int .i64 21)],[(.int .i64 0),(.int .i64 (-1)),(.int .i64 0),(.int .i64 9)],[(.int .i64 0),(.int .i64 0),(.int .i64 (-1)),(.int .i64 4)],[(.int .i64 0),(.int .i64 0),(.int .i64 1),(.int .i64 5)],[(.int .i64 0),(.int .i64 1),(.int .i64 0),(.int .i64 1)],[(.int .i64 1),(.int .i64 0),(.int .i64 0),(.int .i64 12)]]),(.int .i64 0)])
def fa6:List AV:=[tl0,(.fn (.func 119) []),(.agg [(.int .i64 1),(.int .i64 (-7)),(.int .i64 (-4)),(.int .i64 (-3)),(.int .i64 (-7)),(.int .i64 (-4)),(.int .i64 6),(.int .i64 0),(.int .i64 0),(.int .i64 0),(.int .i64 0)]),(.int .i64 0),(.int .i64 9),(.agg [(.int .i64 1),(.int .i64 1),(.int .i64 1)])]
def fr6:AV:=(.tup [(.rs 4 [[(.int .i64 (-1)),(.int .i64 0),(.int .i64 0),(.int .i64 12)],[(.int .i64 0),(.int .i64 (-1)),(.int .i64 0),(.int .i64 9)],[(.int .i64 0),(.int .i64 0),(.int .i64 (-1)),(.int .i64 4)],[(.int .i64 0),(.int .i64 0),(.int .i64 1),(.int .i64 14)],[(.int .i64 0),(.int .i64 1),(.int .i64 0),(.int .i64 1)],[(.int .i64 1),(.int .i64 0),(.int .i64 0),(.int .i64 (-2))]]),(.int .i64 0)])
def fa7:List AV:=[tl0,(.fn (.func 136) []),(.agg [(.int .i64 1),(.int .i64 (-7)),(.int .i64 (-4)),(.int .i64 (-3)),(.int .i64 (-7)),(.int .i64 (-4)),(.int .i64 6),(.int .i64 0),(.int .i64 0),(.int .i64 0),(.int .i64 0)]),(.int .i64 0),(.int .i64 9),(.agg [(.int .i64 1),(.int .i64 1),(.int .i64 1)])]
def fr7:AV:=(.tup [(.rs 4 [[(.int .i64 (-1)),(.int .i64 0),(.int .i64 0),(.int .i64 13)],[(.int .i64 0),(.int .i64 (-1)),(.int .i64 0),(.int .i64 10)],[(.int .i64 0),(.int .i64 0),(.int .i64 (-1)),(.int .i64 (-5))],[(.int .i64 0),(.int .i64 0),(.int .i64 1),(.int .i64 19)],[(.int .i64 0),(.int .i64 1),(.int .i64 0),(.int .i64 2)],[(.int .i64 1),(.int .i64 0),(.int .i64 0),(.int .i64 (-1))]]),(.int .i64 0)])
def fa8:List AV:=[tl0,(.fn (.func 119) []),(.agg [(.int .i64 1),(.int .i64 (-6)),(.int .i64 (-4)),(.int .i64 (-3)),(.int .i64 (-6)),(.int .i64 (-4)),(.int .i64 6),(.int .i64 0),(.int .i64 0),(.int .i64 0),(.int .i64 0)]),(.int .i64 0),(.int .i64 9),(.agg [(.int .i64 1),(.int .i64 1),(.int .i64 1)])]
def fr8:AV:=(.tup [(.rs 4 [[(.int .i64 (-1)),(.int .i64 0),(.int .i64 0),(.int .i64 11)],[(.int .i64 0),(.int .i64 (-1)),(.int .i64 0),(.int .i64 9)],[(.int .i64 0),(.int .i64 0),(.int .i64 (-1)),(.int .i64 4)],[(.int .i64 0),(.int .i64 0),(.int .i64 1),(.int .i64 14)],[(.int .i64 0),(.int .i64 1),(.int .i64 0),(.int .i64 1)],[(.int .i64 1),(.int .i64 0),(.int .i64 0),(.int .i64 (-1))]]),(.int .i64 0)])
def fa9:List AV:=[tl0,(.fn (.func 136) []),(.agg [(.int .i64 1),(.int .i64 (-6)),(.int .i64 (-4)),(.int .i64 (-3)),(.int .i64 (-6)),(.int .i64 (-4)),(.int .i64 6),(.int .i64 0),(.int .i64 0),(.int .i64 0),(.int .i64 0)]),(.int .i64 0),(.int .i64 9),(.agg [(.int .i64 1),(.int .i64 1),(.int .i64 1)])]
def fr9:AV:=(.tup [(.rs 4 [[(.int .i64 (-1)),(.int .i64 0),(.int .i64 0),(.int .i64 12)],[(.int .i64 0),(.int .i64 (-1)),(.int .i64 0),(.int .i64 10)],[(.int .i64 0),(.int .i64 0),(.int .i64 (-1)),(.int .i64 (-5))],[(.int .i64 0),(.int .i64 0),(.int .i64 1),(.int .i64 19)],[(.int .i64 0),(.int .i64 1),(.int .i64 0),(.int .i64 2)],[(.int .i64 1),(.int .i64 0),(.int .i64 0),(.int .i64 0)]]),(.int .i64 0)])
def fa10:List AV:=[tl0,(.fn (.func 119) []),(.agg [(.int .i64 1),(.int .i64 (-5)),(.int .i64 (-4)),(.int .i64 (-3)),(.int .i64 (-5)),(.int .i64 (-4)),(.int .i64 6),(.int .i64 0),(.int .i64 0),(.int .i64 0),(.int .i64 0)]),(.int .i64 0),(.int .i64 9),(.agg [(.int .i64 1),(.int .i64 1),(.int .i64 1)])]
def fr10:AV:=(.tup [(.rs 4 [[(.int .i64 (-1)),(.int .i64 0),(.int .i64 0),(.int .i64 10)],[(.int .i64 0),(.int .i64 (-1)),(.int .i64 0),(.int .i64 9)],[(.int .i64 0),(.int .i64 0),(.int .i64 (-1)),(.int .i64 4)],[(.int .i64 0),(.int .i64 0),(.int .i64 1),(.int .i64 14)],[(.int .i64 0),(.int .i64 1),(.int .i64 0),(.int .i64 1)],[(.int .i64 1),(.int .i64 0),(.int .i64 0),(.int .i64 0)]]),(.int .i64 0)])
def fa11:List AV:=[tl0,(.fn (.func 136) []),(.agg [(.int .i64 1),(.int .i64 (-5)),(.int .i64 (-4)),(.int .i64 (-3)),(.int .i64 (-5)),(.int .i64 (-4)),(.int .i64 6),(.int .i64 0),(.int .i64 0),(.int .i64 0),(.int .i64 0)]),(.int .i64 0),(.int .i64 9),(.agg [(.int .i64 1),(.int .i64 1),(.int .i64 1)])]
def fr11:AV:=(.tup [(.rs 4 [[(.int .i64 (-1)),(.int .i64 0),(.int .i64 0),(.int .i64 11)],[(.int .i64 0),(.int .i64 (-1)),(.int .i64 0),(.int .i64 10)],[(.int .i64 0),(.int .i64 0),(.int .i64 (-1)),(.int .i64 (-5))],[(.int .i64 0),(.int .i64 0),(.int .i64 1),(.int .i64 19)],[(.int .i64 0),(.int .i64 1),(.int .i64 0),(.int .i64 2)],[(.int .i64 1),(.int .i64 0),(.int .i64 0),(.int .i64 1)]]),(.int .i64 0)])
def fa12:List AV:=[tl0,(.fn (.func 119) []),(.agg [(.int .i64 1),(.int .i64 (-4)),(.int .i64 (-4)),(.int .i64 (-3)),(.int .i64 (-4)),(.int .i64 (-4)),(.int .i64 6),(.int .i64 0),(.int .i64 0),(.int .i64 0),(.int .i64 0)]),(.int .i64 0),(.int .i64 9),(.agg [(.int .i64 1),(.int .i64 1),(.int .i64 1)])]
def fr12:AV:=(.tup [(.rs 4 [[(.int .i64 (-1)),(.int .i64 0),(.int .i64 0),(.int .i64 9)],[(.int .i64 0),(.int .i64 (-1)),(.int .i64 0),(.int .i64 9)],[(.int .i64 0),(.int .i64 0),(.int .i64 (-1)),(.int .i64 4)],[(.int .i64 0),(.int .i64 0),(.int .i64 1),(.int .i64 14)],[(.int .i64 0),(.int .i64 1),(.int .i64 0),(.int .i64 1)],[(.int .i64 1),(.int .i64 0),(.int .i64 0),(.int .i64 1)]]),(.int .i64 0)])
def fa13:List AV:=[tl0,(.fn (.func 136) []),(.agg [(.int .i64 1),(.int .i64 (-4)),(.int .i64 (-4)),(.int .i64 (-3)),(.int .i64 (-4)),(.int .i64 (-4)),(.int .i64 6),(.int .i64 0),(.int .i64 0),(.int .i64 0),(.int .i64 0)]),(.int .i64 0),(.int .i64 9),(.agg [(.int .i64 1),(.int .i64 1),(.int .i64 1)])]
def fr13:AV:=(.tup [(.rs 4 [[(.int .i64 (-1)),(.int .i64 0),(.int .i64 0),(.int .i64 10)],[(.int .i64 0),(.int .i64 (-1)),(.int .i64 0),(.int .i64 10)],[(.int .i64 0),(.int .i64 0),(.int .i64 (-1)),(.int .i64 (-5))],[(.int .i64 0),(.int .i64 0),(.int .i64 1),(.int .i64 19)],[(.int .i64 0),(.int .i64 1),(.int .i64 0),(.int .i64 2)],[(.int .i64 1),(.int .i64 0),(.int .i64 0),(.int .i64 2)]]),(.int .i64 0)])
def fa14:List AV:=[tl0,(.fn (.func 119) []),(.agg [(.int .i64 1),(.int .i64 (-3)),(.int .i64 (-4)),(.int .i64 (-3)),(.int .i64 (-3)),(.int .i64 (-4)),(.int .i64 6),(.int .i64 0),(.int .i64 0),(.int .i64 0),(.int .i64 0)]),(.int .i64 0),(.int .i64 9),(.agg [(.int .i64 1),(.int .i64 1),(.int .i64 1)])]
def fr14:AV:=(.tup [(.rs 4 [[(.int .i64 (-1)),(.int .i64 0),(.int .i64 0),(.int .i64 8)],[(.int .i64 0),(.int .i64 (-1)),(.int .i64 0),(.int .i64 9)],[(.int .i64 0),(.int .i64 0),(.int .i64 (-1)),(.int .i64 4)],[(.int .i64 0),(.int .i64 0),(.int .i64 1),(.int .i64 14)],[(.int .i64 0),(.int .i64 1),(.int .i64 0),(.int .i64 1)],[(.int .i64 1),(.int .i64 0),(.int .i64 0),(.int .i64 2)]]),(.int .i64 0)])
def fa15:List AV:=[tl0,(.fn (.func 136) []),(.agg [(.int .i64 1),(.int .i64 (-3)),(.int .i64 (-4)),(.int .i64 (-3)),(.int .i64 (-3)),(.int .i64 (-4)),(.int .i64 6),(.int .i64 0),(.int .i64 0),(.int .i64 0),(.int .i64 0)]),(.int .i64 0),(.int .i64 9),(.agg [(.int .i64 1),(.int .i64 1),(.int .i64 1)])]
def fr15:AV:=(.tup [(.rs 4 [[(.int .i64 (-1)),(.int .i64 0),(.int .i64 0),(.int .i64 9)],[(.int .i64 0),(.int .i64 (-1)),(.int .i64 0),(.int .i64 10)],[(.int .i64 0),(.int .i64 0),(.int .i64 (-1)),(.int .i64 (-5))],[(.int .i64 0),(.int .i64 0),(.int .i64 1),(.int .i64 19)],[(.int .i64 0),(.int .i64 1),(.int .i64 0),(.int .i64 2)],[(.int .i64 1),(.int .i64 0),(.int .i64 0),(.int .i64 3)]]),(.int .i64 0)])
def fa16:List AV:=[tl0,(.fn (.func 119) []),(.agg [(.int .i64 1),(.int .i64 (-2)),(.int .i64 (-4)),(.int .i64 (-3)),(.int .i64 (-2)),(.int .i64 (-4)),(.int .i64 6),(.int .i64 0),(.int .i64 0),(.int .i64 0),(.int .i64 0)]),(.int .i64 0),(.int .i64 9),(.agg [(.int .i64 1),(.int .i64 1),(.int .i64 1)])]
def fr16:AV:=(.tup [(.rs 4 [[(.int .i64 (-1)),(.int .i64 0),(.int .i64 0),(.int .i64 7)],[(.int .i64 0),(.int .i64 (-1)),(.int .i64 0),(.int .i64 9)],[(.int .i64 0),(.int .i64 0),(.int .i64 (-1)),(.int .i64 4)],[(.int .i64 0),(.int .i64 0),(.int .i64 1),(.int .i64 14)],[(.int .i64 0),(.int .i64 1),(.int .i64 0),(.int .i64 1)],[(.int .i64 1),(.int .i64 0),(.int .i64 0),(.int .i64 3)]]),(.int .i64 0)])
def fa17:List AV:=[tl0,(.fn (.func 136) []),(.agg [(.int .i64 1),(.int .i64 (-2)),(.int .i64 (-4)),(.int .i64 (-3)),(.int .i64 (-2)),(.int .i64 (-4)),(.int .i64 6),(.int .i64 0),(.int .i64 0),(.int .i64 0),(.int .i64 0)]),(.int .i64 0),(.int .i64 9),(.agg [(.int .i64 1),(.int .i64 1),(.int .i64 1)])]
def fr17:AV:=(.tup [(.rs 4 [[(.int .i64 (-1)),(.int .i64 0),(.int .i64 0),(.int .i64 8)],[(.int .i64 0),(.int .i64 (-1)),(.int .i64 0),(.int .i64 10)],[(.int .i64 0),(.int .i64 0),(.int .i64 (-1)),(.int .i64 (-5))],[(.int .i64 0),(.int .i64 0),(.int .i64 1),(.int .i64 19)],[(.int .i64 0),(.int .i64 1),(.int .i64 0),(.int .i64 2)],[(.int .i64 1),(.int .i64 0),(.int .i64 0),(.int .i64 4)]]),(.int .i64 0)])
def fa18:List AV:=[tl0,(.fn (.func 119) []),(.agg [(.int .i64 1),(.int .i64 (-7)),(.int .i64 (-4)),(.int .i64 (-3)),(.int .i64 2),(.int .i64 (-4)),(.int .i64 (-3)),(.int .i64 0),(.int .i64 0),(.int .i64 0),(.int .i64 0)]),(.int .i64 0),(.int .i64 9),(.agg [(.int .i64 1),(.int .i64 1),(.int .i64 1)])]
def fr18:AV:=(.tup [(.rs 4 [[(.int .i64 (-1)),(.int .i64 0),(.int .i64 0),(.int .i64 12)],[(.int .i64 0),(.int .i64 (-1)),(.int .i64 0),(.int .i64 9)],[(.int .i64 0),(.int .i64 0),(.int .i64 (-1)),(.int .i64 4)],[(.int .i64 0),(.int .i64 0),(.int .i64 1),(.int .i64 5)],[(.int .i64 0),(.int .i64 1),(.int .i64 0),(.int .i64 1)],[(.int .i64 1),(.int .i64 0),(.int .i64 0),(.int .i64 7)]]),(.int .i64 0)])
def fa19:List AV:=[tl0,(.fn (.func 136) []),(.agg [(.int .i64 1),(.int .i64 (-7)),(.int .i64 (-4)),(.int .i64 (-3)),(.int .i64 2),(.int .i64 (-4)),(.int .i64 (-3)),(.int .i64 0),(.int .i64 0),(.int .i64 0),(.int .i64 0)]),(.int .i64 0),(.int .i64 9),(.agg [(.int .i64 1),(.int .i64 1),(.int .i64 1)])]
def fr19:AV:=(.tup [(.rs 4 [[(.int .i64 (-1)),(.int .i64 0),(.int .i64 0),(.int .i64 13)],[(.int .i64 0),(.int .i64 (-1)),(.int .i64 0),(.int .i64 10)],[(.int .i64 0),(.int .i64 0),(.int .i64 (-1)),(.int .i64 (-5))],[(.int .i64 0),(.int .i64 0),(.int .i64 1),(.int .i64 10)],[(.int .i64 0),(.int .i64 1),(.int .i64 0),(.int .i64 2)],[(.int .i64 1),(.int .i64 0),(.int .i64 0),(.int .i64 8)]]),(.int .i64 0)])
def fa20:List AV:=[tl0,(.fn (.func 119) []),(.agg [(.int .i64 1),(.int .i64 (-6)),(.int .i64 (-4)),(.int .i64 (-3)),(.int .i64 3),(.int .i64 (-4)),(.int .i64 (-3)),(.int .i64 0),(.int .i64 0),(.int .i64 0),(.int .i64 0)]),(.int .i64 0),(.int .i64 9),(.agg [(.int .i64 1),(.int .i64 1),(.int .i64 1)])]
def fr20:AV:=(.tup [(.rs 4 [[(.int .i64 (-1)),(.int .i64 0),(.int .i64 0),(.int .i64 11)],[(.int .i64 0),(.int .i64 (-1)),(.int .i64 0),(.int .i64 9)],[(.int .i64 0),(.int .i64 0),(.int .i64 (-1)),(.int .i64 4)],[(.int .i64 0),(.int .i64 0),(.int .i64 1),(.int .i64 5)],[(.int .i64 0),(.int .i64 1),(.int .i64 0),(.int .i64 1)],[(.int .i64 1),(.int .i64 0),(.int .i64 0),(.int .i64 8)]]),(.int .i64 0)])
def fa21:List AV:=[tl0,(.fn (.func 136) []),(.agg [(.int .i64 1),(.int .i64 (-6)),(.int .i64 (-4)),(.int .i64 (-3)),(.int .i64 3),(.int .i64 (-4)),(.int .i64 (-3)),(.int .i64 0),(.int .i64 0),(.int .i64 0),(.int .i64 0)]),(.int .i64 0),(.int .i64 9),(.agg [(.int .i64 1),(.int .i64 1),(.int .i64 1)])]
def fr21:AV:=(.tup [(.rs 4 [[(.int .i64 (-1)),(.int .i64 0),(.int .i64 0),(.int .i64 12)],[(.int .i64 0),(.int .i64 (-1)),(.int .i64 0),(.int .i64 10)],[(.int .i64 0),(.int .i64 0),(.int .i64 (-1)),(.int .i64 (-5))],[(.int .i64 0),(.int .i64 0),(.int .i64 1),(.int .i64 10)],[(.int .i64 0),(.int .i64 1),(.int .i64 0),(.int .i64 2)],[(.int .i64 1),(.int .i64 0),(.int .i64 0),(.int .i64 9)]]),(.int .i64 0)])
def fa22:List AV:=[tl0,(.fn (.func 119) []),(.agg [(.int .i64 1),(.int .i64 (-5)),(.int .i64 (-4)),(.int .i64 (-3)),(.int .i64 4),(.int .i64 (-4)),(.int .i64 (-3)),(.int .i64 0),(.int .i64 0),(.int .i64 0),(.int .i64 0)]),(.int .i64 0),(.int .i64 9),(.agg [(.int .i64 1),(.int .i64 1),(.int .i64 1)])]
def fr22:AV:=(.tup [(.rs 4 [[(.int .i64 (-1)),(.int .i64 0),(.int .i64 0),(.int .i64 10)],[(.int .i64 0),(.int .i64 (-1)),(.int .i64 0),(.int .i64 9)],[(.int .i64 0),(.int .i64 0),(.int .i64 (-1)),(.int .i64 4)],[(.int .i64 0),(.int .i64 0),(.int .i64 1),(.int .i64 5)],[(.int .i64 0),(.int .i64 1),(.int .i64 0),(.int .i64 1)],[(.int .i64 1),(.int .i64 0),(.int .i64 0),(.int .i64 9)]]),(.int .i64 0)])
def fa23:List AV:=[tl0,(.fn (.func 136) []),(.agg [(.int .i64 1),(.int .i64 (-5)),(.int .i64 (-4)),(.int .i64 (-3)),(.int .i64 4),(.int .i64 (-4)),(.int .i64 (-3)),(.int .i64 0),(.int .i64 0),(.int .i64 0),(.int .i64 0)]),(.int .i64 0),(.int .i64 9),(.agg [(.int .i64 1),(.int .i64 1),(.int .i64 1)])]
def fr23:AV:=(.tup [(.rs 4 [[(.int .i64 (-1)),(.int .i64 0),(.int .i64 0),(.int .i64 11)],[(.int .i64 0),(.int .i64 (-1)),(.int .i64 0),(.int .i64 10)],[(.int .i64 0),(.int .i64 0),(.int .i64 (-1)),(.int .i64 (-5))],[(.int .i64 0),(.int .i64 0),(.int .i64 1),(.int .i64 10)],[(.int .i64 0),(.int .i64 1),(.int .i64 0),(.int .i64 2)],[(.int .i64 1),(.int .i64 0),(.int .i64 0),(.int .i64 10)]]),(.int .i64 0)])
def fa24:List AV:=[tl0,(.fn (.func 119) []),(.agg [(.int .i64 1),(.int .i64 (-4)),(.int .i64 (-4)),(.int .i64 (-3)),(.int .i64 5),(.int .i64 (-4)),(.int .i64 (-3)),(.int .i64 0),(.int .i64 0),(.int .i64 0),(.int .i64 0)]),(.int .i64 0),(.int .i64 9),(.agg [(.int .i64 1),(.int .i64 1),(.int .i64 1)])]
def fr24:AV:=(.tup [(.rs 4 [[(.int .i64 (-1)),(.int .i64 0),(.int .i64 0),(.int .i64 9)],[(.int .i64 0),(.int .i64 (-1)),(.int .i64 0),(.int .i64 9)],[(.int .i64 0),(.int .i64 0),(.int .i64 (-1)),(.int .i64 4)],[(.int .i64 0),(.int .i64 0),(.int .i64 1),(.int .i64 5)],[(.int .i64 0),(.int .i64 1),(.int .i64 0),(.int .i64 1)],[(.int .i64 1),(.int .i64 0),(.int .i64 0),(.int .i64 10)]]),(.int .i64 0)])
def fa25:List AV:=[tl0,(.fn (.func 136) []),(.agg [(.int .i64 1),(.int .i64 (-4)),(.int .i64 (-4)),(.int .i64 (-3)),(.int .i64 5),(.int .i64 (-4)),(.int .i64 (-3)),(.int .i64 0),(.int .i64 0),(.int .i64 0),(.int .i64 0)]),(.int .i64 0),(.int .i64 9),(.agg [(.int .i64 1),(.int .i64 1),(.int .i64 1)])]
def fr25:AV:=(.tup [(.rs 4 [[(.int .i64 (-1)),(.int .i64 0),(.int .i64 0),(.int .i64 10)],[(.int .i64 0),(.int .i64 (-1)),(.int .i64 0),(.int .i64 10)],[(.int .i64 0),(.int .i64 0),(.int .i64 (-1)),(.int .i64 (-5))],[(.int .i64 0),(.int .i64 0),(.int .i64 1),(.int .i64 10)],[(.int .i64 0),(.int .i64 1),(.int .i64 0),(.int .i64 2)],[(.int .i64 1),(.int .i64 0),(.int .i64 0),(.int .i64 11)]]),(.int .i64 0)])
def fa26:List AV:=[tl0,(.fn (.func 119) []),(.agg [(.int .i64 1),(.int .i64 (-3)),(.int .i64 (-4)),(.int .i64 (-3)),(.int .i64 6),(.int .i64 (-4)),(.int .i64 (-3)),(.int .i64 0),(.int .i64 0),(.int .i64 0),(.int .i64 0)]),(.int .i64 0),(.int .i64 9),(.agg [(.int .i64 1),(.int .i64 1),(.int .i64 1)])]
def fr26:AV:=(.tup [(.rs 4 [[(.int .i64 (-1)),(.int .i64 0),(.int .i64 0),(.int .i64 8)],[(.int .i64 0),(.int .i64 (-1)),(.int .i64 0),(.int .i64 9)],[(.int .i64 0),(.int .i64 0),(.int .i64 (-1)),(.int .i64 4)],[(.int .i64 0),(.int .i64 0),(.int .i64 1),(.int .i64 5)],[(.int .i64 0),(.int .i64 1),(.int .i64 0),(.int .i64 1)],[(.int .i64 1),(.int .i64 0),(.int .i64 0),(.int .i64 11)]]),(.int .i64 0)])
def fa27:List AV:=[tl0,(.fn (.func 136) []),(.agg [(.int .i64 1),(.int .i64 (-3)),(.int .i64 (-4)),(.int .i64 (-3)),(.int .i64 6),(.int .i64 (-4)),(.int .i64 (-3)),(.int .i64 0),(.int .i64 0),(.int .i64 0),(.int .i64 0)]),(.int .i64 0),(.int .i64 9),(.agg [(.int .i64 1),(.int .i64 1),(.int .i64 1)])]
def fr27:AV:=(.tup [(.rs 4 [[(.int .i64 (-1)),(.int .i64 0),(.int .i64 0),(.int .i64 9)],[(.int .i64 0),(.int .i64 (-1)),(.int .i64 0),(.int .i64 10)],[(.int .i64 0),(.int .i64 0),(.int .i64 (-1)),(.int .i64 (-5))],[(.int .i64 0),(.int .i64 0),(.int .i64 1),(.int .i64 10)],[(.int .i64 0),(.int .i64 1),(.int .i64 0),(.int .i64 2)],[(.int .i64 1),(.int .i64 0),(.int .i64 0),(.int .i64 12)]]),(.int .i64 0)])
def fa28:List AV:=[tl0,(.fn (.func 119) []),(.agg [(.int .i64 1),(.int .i64 (-2)),(.int .i64 (-4)),(.int .i64 (-3)),(.int .i64 7),(.int .i64 (-4)),(.int .i64 (-3)),(.int .i64 0),(.int .i64 0),(.int .i64 0),(.int .i64 0)]),(.int .i64 0),(.int .i64 9),(.agg [(.int .i64 1),(.int .i64 1),(.int .i64 1)])]
def fr28:AV:=(.tup [(.rs 4 [[(.int .i64 (-1)),(.int .i64 0),(.int .i64 0),(.int .i64 7)],[(.int .i64 0),(.int .i64 (-1)),(.int .i64 0),(.int .i64 9)],[(.int .i64 0),(.int .i64 0),(.int .i64 (-1)),(.int .i64 4)],[(.int .i64 0),(.int .i64 0),(.int .i64 1),(.int .i64 5)],[(.int .i64 0),(.int .i64 1),(.int .i64 0),(.int .i64 1)],[(.int .i64 1),(.int .i64 0),(.int .i64 0),(.int .i64 12)]]),(.int .i64 0)])
def fa29:List AV:=[tl0,(.fn (.func 136) []),(.agg [(.int .i64 1),(.int .i64 (-2)),(.int .i64 (-4)),(.int .i64 (-3)),(.int .i64 7),(.int .i64 (-4)),(.int .i64 (-3)),(.int .i64 0),(.int .i64 0),(.int .i64 0),(.int .i64 0)]),(.int .i64 0),(.int .i64 9),(.agg [(.int .i64 1),(.int .i64 1),(.int .i64 1)])]
def fr29:AV:=(.tup [(.rs 4 [[(.int .i64 (-1)),(.int .i64 0),(.int .i64 0),(.int .i64 8)],[(.int .i64 0),(.int .i64 (-1)),(.int .i64 0),(.int .i64 10)],[(.int .i64 0),(.int .i64 0),(.int .i64 (-1)),(.int .i64 (-5))],[(.int .i64 0),(.int .i64 0),(.int .i64 1),(.int .i64 10)],[(.int .i64 0),(.int .i64 1),(.int .i64 0),(.int .i64 2)],[(.int .i64 1),(.int .i64 0),(.int .i64 0),(.int .i64 13)]]),(.int .i64 0)])
theorem QR {a b:Bool} (h:(a&&b)=true):a=true/\b=true:=by cases a <;> cases b <;> first | exact ⟨rfl,rfl⟩ | cases h
def fcts:List (Nat×List AV×AV):=[(64,fa0,fr0),(118,fa1,fr1),(64,fa2,fr2),(118,fa3,fr3),(64,fa4,fr4),(118,fa5,fr5),(118,fa6,fr6),(118,fa7,fr7),(118,fa8,fr8),(118,fa9,fr9),(118,fa10,fr10),(118,fa11,fr11),(118,fa12,fr12),(118,fa13,fr13),(118,fa14,fr14),(118,fa15,fr15),(118,fa16,fr16),(118,fa17,fr17),(118,fa18,fr18),(118,fa19,fr19),(118,fa20,fr20),(118,fa21,fr21),(118,fa22,fr22),(118,fa23,fr23),(118,fa24,fr24),(118,fa25,fr25),(118,fa26,fr26),(118,fa27,fr27),(118,fa28,fr28),(118,fa29,fr29)]
end Go.Proofs.YthmbjgnjfjjibaaGreatDoor
namespace Go.Proofs.YthmbjgnjfjjibaaGreatDoor
set_option maxRecDepth 100000
def fe0:List AV:=[(.rs 8 [[(.int .i64 (-7)),(.int .i64 (-5)),(.int .i64 (-10)),(.int .i64 0),(.int .i64 0),(.int .i64 1),(.int .i64 0),(.int .i64 0)],[(.int .i64 7),(.int .i64 (-5)),(.int .i64 (-10)),(.int .i64 0),(.int .i64 0),(.int .i64 1),(.int .i64 0),(.int .i64 0)],[(.int .i64 0),(.int .i64 5),(.int .i64 (-10)),(.int .i64 0),(.int .i64 0),(.int .i64 1),(.int .i64 0),(.int .i64 0)],[(.int .i64 (-7)),(.int .i64 (-6)),(.int .i64 (-8)),(.int .i64 0),(.int .i64 1),(.int .i64 0),(.int .i64 0),(.int .i64 0)],[(.int .i64 7),(.int .i64 (-6)),(.int .i64 (-8)),(.int .i64 0),(.int .i64 1),(.int .i64 0),(.int .i64 0),(.int .i64 0)],[(.int .i64 (-8)),(.int .i64 0),(.int .i64 (-8)),(.int .i64 1),(.int .i64 0),(.int .i64 0),(.int .i64 0),(.int .i64 0)]])]
def fs0:AV:=(.int .i64 0)
def fe1:List AV:=[(.rs 11 [[(.int .i64 1),(.int .i64 (-16)),(.int .i64 (-4)),(.int .i64 8),(.int .i64 (-16)),(.int .i64 (-4)),(.int .i64 (-3)),(.int .i64 0),(.int .i64 0),(.int .i64 0),(.int .i64 0)],[(.int .i64 2),(.int .i64 (-16)),(.int .i64 (-4)),(.int .i64 (-3)),(.int .i64 7),(.int .i64 (-4)),(.int .i64 (-3)),(.int .i64 0),(.int .i64 0),(.int .i64 0),(.int .i64 10)],[(.int .i64 2),(.int .i64 7),(.int .i64 (-4)),(.int .i64 (-3)),(.int .i64 7),(.int .i64 0),(.int .i64 (-3)),(.int .i64 0),(.int .i64 0),(.int .i64 0),(.int .i64 10)],[(.int .i64 2),(.int .i64 7),(.int .i64 0),(.int .i64 (-3)),(.int .i64 (-16)),(.int .i64 0),(.int .i64 (-3)),(.int .i64 0),(.int .i64 0),(.int .i64 0),(.int .i64 10)]])]
def fs1:AV:=(.int .i64 61)
def fe2:List AV:=[(.agg [(.int .i64 2),(.int .i64 (-16)),(.int .i64 (-4)),(.int .i64 (-3)),(.int .i64 7),(.int .i64 (-4)),(.int .i64 (-3)),(.int .i64 0),(.int .i64 0),(.int .i64 0),(.int .i64 10)]),(.int .i64 9)]
def fs2:AV:=(.tup [(.agg [(.int .i64 (-7)),(.int .i64 (-4)),(.int .i64 (-3))]),(.bool true)])
def fe3:List AV:=[(.agg [(.int .i64 2),(.int .i64 (-16)),(.int .i64 (-4)),(.int .i64 (-3)),(.int .i64 7),(.int .i64 (-4)),(.int .i64 (-3)),(.int .i64 0),(.int .i64 0),(.int .i64 0),(.int .i64 10)]),(.int .i64 10)]
def fs3:AV:=(.tup [(.agg [(.int .i64 (-6)),(.int .i64 (-4)),(.int .i64 (-3))]),(.bool true)])
def fe4:List AV:=[(.agg [(.int .i64 2),(.int .i64 (-16)),(.int .i64 (-4)),(.int .i64 (-3)),(.int .i64 7),(.int .i64 (-4)),(.int .i64 (-3)),(.int .i64 0),(.int .i64 0),(.int .i64 0),(.int .i64 10)]),(.int .i64 11)]
def fs4:AV:=(.tup [(.agg [(.int .i64 (-5)),(.int .i64 (-4)),(.int .i64 (-3))]),(.bool true)])
def fe5:List AV:=[(.agg [(.int .i64 2),(.int .i64 (-16)),(.int .i64 (-4)),(.int .i64 (-3)),(.int .i64 7),(.int .i64 (-4)),(.int .i64 (-3)),(.int .i64 0),(.int .i64 0),(.int .i64 0),(.int .i64 10)]),(.int .i64 12)]
def fs5:AV:=(.tup [(.agg [(.int .i64 (-4)),(.int .i64 (-4)),(.int .i64 (-3))]),(.bool true)])
def fe6:List AV:=[(.agg [(.int .i64 2),(.int .i64 (-16)),(.int .i64 (-4)),(.int .i64 (-3)),(.int .i64 7),(.int .i64 (-4)),(.int .i64 (-3)),(.int .i64 0),(.int .i64 0),(.int .i64 0),(.int .i64 10)]),(.int .i64 13)]
def fs6:AV:=(.tup [(.agg [(.int .i64 (-3)),(.int .i64 (-4)),(.int .i64 (-3))]),(.bool true)])
def fe7:List AV:=[(.agg [(.int .i64 2),(.int .i64 (-16)),(.int .i64 (-4)),(.int .i64 (-3)),(.int .i64 7),(.int .i64 (-4)),(.int .i64 (-3)),(.int .i64 0),(.int .i64 0),(.int .i64 0),(.int .i64 10)]),(.int .i64 14)]
def fs7:AV:=(.tup [(.agg [(.int .i64 (-2)),(.int .i64 (-4)),(.int .i64 (-3))]),(.bool true)])
def fe8:List AV:=[(.rs 11 [[(.int .i64 1),(.int .i64 (-16)),(.int .i64 (-4)),(.int .i64 8),(.int .i64 (-16)),(.int .i64 (-4)),(.int .i64 (-3)),(.int .i64 0),(.int .i64 0),(.int .i64 0),(.int .i64 0)],[(.int .i64 2),(.int .i64 (-16)),(.int .i64 (-4)),(.int .i64 (-3)),(.int .i64 7),(.int .i64 (-4)),(.int .i64 (-3)),(.int .i64 0),(.int .i64 0),(.int .i64 0),(.int .i64 10)],[(.int .i64 2),(.int .i64 7),(.int .i64 (-4)),(.int .i64 (-3)),(.int .i64 7),(.int .i64 0),(.int .i64 (-3)),(.int .i64 0),(.int .i64 0),(.int .i64 0),(.int .i64 10)],[(.int .i64 2),(.int .i64 7),(.int .i64 0),(.int .i64 (-3)),(.int .i64 (-16)),(.int .i64 0),(.int .i64 (-3)),(.int .i64 0),(.int .i64 0),(.int .i64 0),(.int .i64 10)]])]
def fs8:AV:=(.int .i64 0)
def fe9:List AV:=[(.rs 11 [[(.int .i64 1),(.int .i64 (-16)),(.int .i64 (-4)),(.int .i64 8),(.int .i64 (-16)),(.int .i64 (-4)),(.int .i64 (-3)),(.int .i64 0),(.int .i64 0),(.int .i64 0),(.int .i64 0)],[(.int .i64 2),(.int .i64 (-16)),(.int .i64 (-4)),(.int .i64 (-3)),(.int .i64 7),(.int .i64 (-4)),(.int .i64 (-3)),(.int .i64 0),(.int .i64 0),(.int .i64 0),(.int .i64 10)],[(.int .i64 2),(.int .i64 7),(.int .i64 (-4)),(.int .i64 (-3)),(.int .i64 7),(.int .i64 0),(.int .i64 (-3)),(.int .i64 0),(.int .i64 0),(.int .i64 0),(.int .i64 10)],[(.int .i64 2),(.int .i64 7),(.int .i64 0),(.int .i64 (-3)),(.int .i64 (-16)),(.int .i64 0),(.int .i64 (-3)),(.int .i64 0),(.int .i64 0),(.int .i64 0),(.int .i64 10)]]),(.int .i64 20)]
def fs9:AV:=(.tup [(.int .i64 1),(.int .i64 9),(.bool true)])
def fe10:List AV:=[(.rs 11 [[(.int .i64 1),(.int .i64 (-16)),(.int .i64 (-4)),(.int .i64 8),(.int .i64 (-16)),(.int .i64 (-4)),(.int .i64 (-3)),(.int .i64 0),(.int .i64 0),(.int .i64 0),(.int .i64 0)],[(.int .i64 2),(.int .i64 (-16)),(.int .i64 (-4)),(.int .i64 (-3)),(.int .i64 7),(.int .i64 (-4)),(.int .i64 (-3)),(.int .i64 0),(.int .i64 0),(.int .i64 0),(.int .i64 10)],[(.int .i64 2),(.int .i64 7),(.int .i64 (-4)),(.int .i64 (-3)),(.int .i64 7),(.int .i64 0),(.int .i64 (-3)),(.int .i64 0),(.int .i64 0),(.int .i64 0),(.int .i64 10)],[(.int .i64 2),(.int .i64 7),(.int .i64 0),(.int .i64 (-3)),(.int .i64 (-16)),(.int .i64 0),(.int .i64 (-3)),(.int .i64 0),(.int .i64 0),(.int .i64 0),(.int .i64 10)]]),(.int .i64 21)]
def fs10:AV:=(.tup [(.int .i64 1),(.int .i64 10),(.bool true)])
def fe11:List AV:=[(.rs 11 [[(.int .i64 1),(.int .i64 (-16)),(.int .i64 (-4)),(.int .i64 8),(.int .i64 (-16)),(.int .i64 (-4)),(.int .i64 (-3)),(.int .i64 0),(.int .i64 0),(.int .i64 0),(.int .i64 0)],[(.int .i64 2),(.int .i64 (-16)),(.int .i64 (-4)),(.int .i64 (-3)),(.int .i64 7),(.int .i64 (-4)),(.int .i64 (-3)),(.int .i64 0),(.int .i64 0),(.int .i64 0),(.int .i64 10)],[(.int .i64 2),(.int .i64 7),(.int .i64 (-4)),(.int .i64 (-3)),(.int .i64 7),(.int .i64 0),(.int .i64 (-3)),(.int .i64 0),(.int .i64 0),(.int .i64 0),(.int .i64 10)],[(.int .i64 2),(.int .i64 7),(.int .i64 0),(.int .i64 (-3)),(.int .i64 (-16)),(.int .i64 0),(.int .i64 (-3)),(.int .i64 0),(.int .i64 0),(.int .i64 0),(.int .i64 10)]]),(.int .i64 22)]
def fs11:AV:=(.tup [(.int .i64 1),(.int .i64 11),(.bool true)])
def fe12:List AV:=[(.rs 11 [[(.int .i64 1),(.int .i64 (-16)),(.int .i64 (-4)),(.int .i64 8),(.int .i64 (-16)),(.int .i64 (-4)),(.int .i64 (-3)),(.int .i64 0),(.int .i64 0),(.int .i64 0),(.int .i64 0)],[(.int .i64 2),(.int .i64 (-16)),(.int .i64 (-4)),(.int .i64 (-3)),(.int .i64 7),(.int .i64 (-4)),(.int .i64 (-3)),(.int .i64 0),(.int .i64 0),(.int .i64 0),(.int .i64 10)],[(.int .i64 2),(.int .i64 7),(.int .i64 (-4)),(.int .i64 (-3)),(.int .i64 7),(.int .i64 0),(.int .i64 (-3)),(.int .i64 0),(.int .i64 0),(.int .i64 0),(.int .i64 10)],[(.int .i64 2),(.int .i64 7),(.int .i64 0),(.int .i64 (-3)),(.int .i64 (-16)),(.int .i64 0),(.int .i64 (-3)),(.int .i64 0),(.int .i64 0),(.int .i64 0),(.int .i64 10)]]),(.int .i64 23)]
def fs12:AV:=(.tup [(.int .i64 1),(.int .i64 12),(.bool true)])
def fe13:List AV:=[(.rs 11 [[(.int .i64 1),(.int .i64 (-16)),(.int .i64 (-4)),(.int .i64 8),(.int .i64 (-16)),(.int .i64 (-4)),(.int .i64 (-3)),(.int .i64 0),(.int .i64 0),(.int .i64 0),(.int .i64 0)],[(.int .i64 2),(.int .i64 (-16)),(.int .i64 (-4)),(.int .i64 (-3)),(.int .i64 7),(.int .i64 (-4)),(.int .i64 (-3)),(.int .i64 0),(.int .i64 0),(.int .i64 0),(.int .i64 10)],[(.int .i64 2),(.int .i64 7),(.int .i64 (-4)),(.int .i64 (-3)),(.int .i64 7),(.int .i64 0),(.int .i64 (-3)),(.int .i64 0),(.int .i64 0),(.int .i64 0),(.int .i64 10)],[(.int .i64 2),(.int .i64 7),(.int .i64 0),(.int .i64 (-3)),(.int .i64 (-16)),(.int .i64 0),(.int .i64 (-3)),(.int .i64 0),(.int .i64 0),(.int .i64 0),(.int .i64 10)]]),(.int .i64 24)]
def fs13:AV:=(.tup [(.int .i64 1),(.int .i64 13),(.bool true)])
def fe14:List AV:=[(.rs 11 [[(.int .i64 1),(.int .i64 (-16)),(.int .i64 (-4)),(.int .i64 8),(.int .i64 (-16)),(.int .i64 (-4)),(.int .i64 (-3)),(.int .i64 0),(.int .i64 0),(.int .i64 0),(.int .i64 0)],[(.int .i64 2),(.int .i64 (-16)),(.int .i64 (-4)),(.int .i64 (-3)),(.int .i64 7),(.int .i64 (-4)),(.int .i64 (-3)),(.int .i64 0),(.int .i64 0),(.int .i64 0),(.int .i64 10)],[(.int .i64 2),(.int .i64 7),(.int .i64 (-4)),(.int .i64 (-3)),(.int .i64 7),(.int .i64 0),(.int .i64 (-3)),(.int .i64 0),(.int .i64 0),(.int .i64 0),(.int .i64 10)],[(.int .i64 2),(.int .i64 7),(.int .i64 0),(.int .i64 (-3)),(.int .i64 (-16)),(.int .i64 0),(.int .i64 (-3)),(.int .i64 0),(.int .i64 0),(.int .i64 0),(.int .i64 10)]]),(.int .i64 25)]
def fs14:AV:=(.tup [(.int .i64 1),(.int .i64 14),(.bool true)])
def fctE:List (Nat×List AV×AV):=[(105,fe0,fs0),(76,fe1,fs1),(47,fe2,fs2),(47,fe3,fs3),(47,fe4,fs4),(47,fe5,fs5),(47,fe6,fs6),(47,fe7,fs7),(31,fe8,fs8),(12,fe9,fs9),(12,fe10,fs10),(12,fe11,fs11),(12,fe12,fs12),(12,fe13,fs13),(12,fe14,fs14)]++fcts
end Go.Proofs.YthmbjgnjfjjibaaGreatDoor
